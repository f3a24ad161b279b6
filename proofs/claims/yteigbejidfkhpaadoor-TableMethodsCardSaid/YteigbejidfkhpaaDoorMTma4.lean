/- Texts of this claim, joined: RmE, TbR, TbU, TbH, TbT, TableTells, Open3, OpenP, TnA, TmA, OpenM. -/
import Derived.Test.YteigbejidfkhpaaDoorMTma3
import Derived.Deep.RegionLaw
import Derived.BigQuiet
import Derived.Deep.DeepCutAuto
import Derived.Deep.CutRange
import Derived.Deep.QuietTactic
import Derived.Deep.RegionHeld3
import Derived.Lib.QuietBelow
import Derived.ChangeSame
import Derived.Lib.SlBytesConst
/- The reference's Decode. -/
namespace Go.Proofs.YteigbejidfkhpaaDoor
open Go Go.RowKit Go.Sort
set_option linter.unusedSimpArgs false
set_option linter.unusedVariables false

/-- What holds at the head of the loop. -/
structure RI2 (w wr : World) (G M : Nat) (f : ByteArray) (pos : Nat) (c i : Int) (total : Option DSt) (vn vt vp : Value) (ns : List Int) (ts : List ByteArray) (ps : List Prp) (o : Option ByteArray) : Prop where
  dr : DR w wr G M c i vn vt vp ns ts ps
  rx : RX wr G o
  tot : total = runO (f.data.toList.drop pos) ns ts ps o
  rz : ∀ r, o = some r → r.size ≤ 1073741824
  ln : ns.length ≤ pos
  lt : ts.length ≤ pos
theorem numP_left {k : Nat} (s : ByteArray) (x : Nat) (r : ByteArray) (h : numP k s = some (x, r)) : r.size ≤ s.size := by have := numP_size h; omega
theorem shortP_left (s x r : ByteArray) (h : shortP s = some (x, r)) : r.size ≤ s.size := by have := shortP_size h; omega
theorem longP_left (s x r : ByteArray) (h : longP s = some (x, r)) : r.size ≤ s.size := by have := longP_size h; omega
theorem tabP_left (s : ByteArray) (x : List Prp) (r : ByteArray) (h : tableP s = some (x, r)) : r.size ≤ s.size := tableP_size h

theorem ends_c {w w3 wE : World} {M : Nat} (Z3 : w3.heap[w.heap.size]? = some zM) (T : Two w3 wE (w.heap.size + 1) M) (hG : w.heap.size + 1 < M) (hM : M < w3.heap.size) (B3 : Below w.heap.size w w3) : wE.heap[w.heap.size]? = some zM ∧ w.grownBy wE none := by
  refine ⟨(T.block _ (by omega) (by omega) (by omega)).trans Z3, grownBy_below (B3.trans (T.below (by omega) (by omega) (by omega))) none⟩
theorem grown5_below {w wE : World} (h : w.grownBy wE none) (a b c d e : Value) : Below w.heap.size w (((((wE.setCell ⟨w.heap.size, 0, none⟩ a).setCell ⟨w.heap.size, 1, none⟩ b).setCell ⟨w.heap.size, 2, none⟩ c).setCell ⟨w.heap.size, 3, none⟩ d).setCell ⟨w.heap.size, 4, none⟩ e) := by
  have g := grown5 h (Nat.le_refl _) a b c d e
  exact ⟨g.os, g.tape, g.output, g.size, fun k hk => g.block k hk (by intro h; cases h)⟩
theorem dr_set5 {w3 wE : World} {G M r0 B : Nat} {c i : Int} {vn vt vp : Value} {ns : List Int} {ts : List ByteArray} {ps : List Prp} (D : DR w3 wE G M c i vn vt vp ns ts ps) (h : r0 < w3.heap.size) (hB : B ≤ w3.heap.size) (u0 u1 u2 u3 u4 : Value) :
    (((((wE.setCell ⟨r0, 0, none⟩ u0).setCell ⟨r0, 1, none⟩ u1).setCell ⟨r0, 2, none⟩ u2).setCell ⟨r0, 3, none⟩ u3).setCell ⟨r0, 4, none⟩ u4).ownsRow B 3 1 vn ns.length (ns.map (Value.int .i64)) ∧
    (((((wE.setCell ⟨r0, 0, none⟩ u0).setCell ⟨r0, 1, none⟩ u1).setCell ⟨r0, 2, none⟩ u2).setCell ⟨r0, 3, none⟩ u3).setCell ⟨r0, 4, none⟩ u4).ownsRow B 9 1 vt ts.length (ts.map Value.string) ∧
    OwnP (((((wE.setCell ⟨r0, 0, none⟩ u0).setCell ⟨r0, 1, none⟩ u1).setCell ⟨r0, 2, none⟩ u2).setCell ⟨r0, 3, none⟩ u3).setCell ⟨r0, 4, none⟩ u4) B vp ps := by
  have kn : ∀ (j : Nat) (u : Value) (X : World), X.ownsRow w3.heap.size 3 1 vn ns.length (ns.map (Value.int .i64)) → (X.setCell ⟨r0, j, none⟩ u).ownsRow w3.heap.size 3 1 vn ns.length (ns.map (Value.int .i64)) := fun j u X hx => own_kept hx (grownBy_set X _ j u) (fun k e => by injection e with e; rw [← e]; exact own_low hx h)
  have kt : ∀ (j : Nat) (u : Value) (X : World), X.ownsRow w3.heap.size 9 1 vt ts.length (ts.map Value.string) → (X.setCell ⟨r0, j, none⟩ u).ownsRow w3.heap.size 9 1 vt ts.length (ts.map Value.string) := fun j u X hx => own_kept hx (grownBy_set X _ j u) (fun k e => by injection e with e; rw [← e]; exact own_low hx h)
  have kp : ∀ (j : Nat) (u : Value) (X : World), OwnP X w3.heap.size vp ps → OwnP (X.setCell ⟨r0, j, none⟩ u) w3.heap.size vp ps := fun j u X hx => ownP_kept hx (grownBy_set X _ j u) (fun k e => by injection e with e; rw [← e]; exact ownP_low hx h)
  exact ⟨own_lower (kn 4 _ _ (kn 3 _ _ (kn 2 _ _ (kn 1 _ _ (kn 0 _ _ D.oi))))) hB, own_lower (kt 4 _ _ (kt 3 _ _ (kt 2 _ _ (kt 1 _ _ (kt 0 _ _ D.os))))) hB, ownP_lower (kp 4 _ _ (kp 3 _ _ (kp 2 _ _ (kp 1 _ _ (kp 0 _ _ D.op))))) hB⟩

set_option maxRecDepth 1000000 in
set_option maxHeartbeats 8000000 in
theorem refDecode_c {w : World} (s : ByteArray) (hs : s.size ≤ 1073741824) :
    Calls Tryd.prog 27 #[.string s] w (DecPost w s) := by
  have hb0 := (Below.refl w.heap.size w).alloc (Nat.le_refl _) zM
  have hb1 := hb0.alloc hb0.size (.cells #[.string s, .bool false] 73)
  have hz0 := heap_alloc_new w zM
  have hz1 := keeps_alloc (w.alloc zM) (.cells #[.string s, .bool false] 73) _ _ _ _ (by decide) hz0
  have hsz : (w.alloc zM).heap.size = w.heap.size + 1 := Array.size_push _
  have hr1 : RX ((w.alloc zM).alloc (.cells #[.string s, .bool false] 73)) (w.heap.size + 1) (some s) := by
    have h := heap_alloc_new (w.alloc zM) (.cells #[.string s, .bool false] 73)
    rw [hsz] at h
    exact h
  have N1 := Lib.hid (xNumber_c hr1 2 (by omega) 2 rfl)
  have hal : outX 0 ((some s).bind (numP 2)) < 65536 := out_lt
  obtain ⟨a, ha⟩ : ∃ a, a = outX 0 ((some s).bind (numP 2)) := ⟨_, rfl⟩
  unfold XPost at N1
  rw [← ha] at N1 hal
  have hwa : IntKind.i64.wrap (a : Int) = (a : Int) := IntWalk.i64_in _ (by omega)
  have HA := Lib.hid ha
  have HB1 := Lib.hid hb1
  have HZ1 := Lib.hid hz1
  have HS := Lib.hid hs
  clear hb0 hz0 hz1 hsz hr1 hal ha hs hb1
  unfold zM at N1 HB1 HZ1
  go_enter Tryd.func27, Tryd.ntmps27
  go_wp2_with fail
  refine (N1.out).mono ?_
  rintro e w2 ⟨rfl, r2, g2⟩
  have B2 := Lib.hid (below_grown HB1.out g2 (Nat.le_succ _) HB1.out.size)
  have Z2 := Lib.hid (blk_kept HZ1.out g2 (fun e => by injection e with e; omega))
  have al2 := below_al1 w2 (.cells #[.int .i64 a, .int .i64 0, .slice none 0 0, .slice none 0 0, .slice none 0 0] 26)
  obtain ⟨w3, hw3⟩ : ∃ w3, w3 = w2.alloc (.cells #[.int .i64 a, .int .i64 0, .slice none 0 0, .slice none 0 0, .slice none 0 0] 26) := ⟨_, rfl⟩
  have M3 := mb_new w2 a 0 (.slice none 0 0) (.slice none 0 0) (.slice none 0 0)
  rw [← hw3] at al2 M3
  have R3 := rx_below r2 al2
  have B3 := Lib.hid (B2.out.trans (al2.mono B2.out.size))
  have Z3 := Lib.hid (blk_kept Z2.out (grownBy_below al2 none) (by intro h; cases h))
  have N2 := Lib.hid (xNumber_c R3 2 (by omega) 2 rfl)
  have hbl : outX 0 ((leftX ((some s).bind (numP 2))).bind (numP 2)) < 65536 := out_lt
  obtain ⟨b, hb⟩ : ∃ b, b = outX 0 ((leftX ((some s).bind (numP 2))).bind (numP 2)) := ⟨_, rfl⟩
  unfold XPost at N2
  rw [← hb] at N2 hbl
  have hwb : IntKind.i64.wrap (b : Int) = (b : Int) := IntWalk.i64_in _ (by omega)
  have HBB := Lib.hid hb
  have HML := Lib.hid (show w2.heap.size < w3.heap.size from (Array.getElem?_eq_some_iff.1 M3).1)
  have HGL := Lib.hid (rx_lt r2)
  have HM3 := Lib.hid M3
  have HW3 := Lib.hid hw3
  clear r2 g2 N1 hbl hb M3 R3 al2 hw3 HB1 HZ1 B2 Z2
  go_upto_region 3 with fail
  rw [← HW3.out]
  clear HW3
  go_wp2_with fail
  refine (N2.out).mono ?_
  rintro e w4 ⟨rfl, r4, g4⟩
  have M4 := Lib.hid (blk_kept HM3.out g4 (fun e => by injection e with e; have := HGL.out; omega))
  obtain ⟨m0, m1, m2, m3, m4⟩ := mb_facts M4.out
  have n1 := mb_frozen M4.out 1
  have R4 := Lib.hid r4
  have G4 := Lib.hid g4
  clear r4 g4 N2
  go_upto_region 4 with fail
  obtain ⟨W, hW⟩ : ∃ W, W = w4.setCell ⟨w2.heap.size, 1, none⟩ (.int .i64 b) := ⟨_, rfl⟩
  have MW := Lib.hid (show MB W w2.heap.size a b (.slice none 0 0) (.slice none 0 0) (.slice none 0 0) by rw [hW]; exact mb_set1 M4.out b)
  have RW := Lib.hid (show RX W (w.heap.size + 1) _ by rw [hW]; exact rx_kept R4.out (grownBy_set w4 w2.heap.size 1 _) (fun e => by injection e with e; have := HGL.out; omega))
  have GW := Lib.hid (show Two w3 W (w.heap.size + 1) w2.heap.size by rw [hW]; exact (((Two.refl w3 (w.heap.size + 1) w2.heap.size).grown G4.out (fun k e _ => .inl (by injection e with e; exact e.symm))).set 1 _))
  have hF := refForm_c (w := W) a b
  rw [← hW]
  clear hW m0 m1 m2 m3 m4 n1 M4 R4 G4 hwa hwb
  obtain ⟨m0, m1, m2, m3, m4⟩ := mb_facts MW.out
  obtain ⟨o2, ho2⟩ : ∃ o2, o2 = leftX ((leftX ((some s).bind (numP 2))).bind (numP 2)) := ⟨_, rfl⟩
  rw [← ho2] at RW
  cases o2 with
  | none =>
    have HNO := Lib.hid (dec_bad ho2.symm)
    obtain ⟨s9, r9⟩ := RW.out
    obtain ⟨d0, d1, _, _⟩ := rr_facts r9
    have HF := Lib.hid hF
    clear hF r9 ho2
    go_upto_region 5 with (go_at_call 24; refine (HF.out).mono ?_; rintro e w5 ⟨rfl, b5⟩; have B5 := Lib.hid b5; clear b5)
    have d1 := cell_below B5.out (World.block_lt_of_cell? W _ d1) d1
    obtain ⟨hz, hb⟩ := ends_c Z3.out (GW.out.grown (grownBy_below B5.out none) (fun k e _ => by cases e)) HGL.out HML.out B3.out
    have HZ0 := Lib.hid hz
    have HB0 := Lib.hid hb
    have q0 : w5.cell? ⟨w.heap.size, 0, none⟩ = some (.int .i64 0) := by simp [World.cell?, hz]
    have f0 : w5.frozen? ⟨w.heap.size, 0, none⟩ = false := by simp [World.frozen?, hz]
    have q1 : w5.cell? ⟨w.heap.size, 1, none⟩ = some (.int .i64 0) := by simp [World.cell?, hz]
    have f1 : w5.frozen? ⟨w.heap.size, 1, none⟩ = false := by simp [World.frozen?, hz]
    have q2 : w5.cell? ⟨w.heap.size, 2, none⟩ = some (.slice none 0 0) := by simp [World.cell?, hz]
    have f2 : w5.frozen? ⟨w.heap.size, 2, none⟩ = false := by simp [World.frozen?, hz]
    have q3 : w5.cell? ⟨w.heap.size, 3, none⟩ = some (.slice none 0 0) := by simp [World.cell?, hz]
    have f3 : w5.frozen? ⟨w.heap.size, 3, none⟩ = false := by simp [World.frozen?, hz]
    have q4 : w5.cell? ⟨w.heap.size, 4, none⟩ = some (.slice none 0 0) := by simp [World.cell?, hz]
    have f4 : w5.frozen? ⟨w.heap.size, 4, none⟩ = false := by simp [World.frozen?, hz]
    clear hz hb
    go_wp2_with fail
    refine method_end rfl rfl (cells5_at HZ0.out _ _ _ _ _) rfl ?_
    exact decpost_no HNO.out (grown5_below HB0.out _ _ _ _ _)
  | some r2 =>
    obtain ⟨s1, h1, h2⟩ := dec_two ho2.symm
    rw [← HA.out] at h1
    rw [← HBB.out] at h2
    have HNF := Lib.hid (fun h => dec_noF h1 h2 h)
    have HRUN := Lib.hid (fun f h => dec_run (f := f) h1 h2 h)
    have HR2 := Lib.hid (show r2.size ≤ 1073741824 by have := numP_size h1; have := numP_size h2; have := HS.out; omega)
    clear ho2 h1 h2
    cases hf : formCI a b with
    | none =>
      rw [hf] at hF
      simp only [Option.getD_none, Option.isSome_none] at hF
      have HF := Lib.hid hF
      have HNO := Lib.hid (HNF.out hf)
      clear hF hf
      go_upto_region 5 with (go_at_call 24; refine (HF.out).mono ?_; rintro e w5 ⟨rfl, b5⟩; have B5 := Lib.hid b5; clear b5)
      obtain ⟨d0, d1, _, _⟩ := rr_facts (show RR w5 (w.heap.size + 1) r2 false from rx_below RW.out B5.out)
      obtain ⟨hz, hb⟩ := ends_c Z3.out (GW.out.grown (grownBy_below B5.out none) (fun k e _ => by cases e)) HGL.out HML.out B3.out
      have HZ0 := Lib.hid hz
      have HB0 := Lib.hid hb
      have q0 : w5.cell? ⟨w.heap.size, 0, none⟩ = some (.int .i64 0) := by simp [World.cell?, hz]
      have f0 : w5.frozen? ⟨w.heap.size, 0, none⟩ = false := by simp [World.frozen?, hz]
      have q1 : w5.cell? ⟨w.heap.size, 1, none⟩ = some (.int .i64 0) := by simp [World.cell?, hz]
      have f1 : w5.frozen? ⟨w.heap.size, 1, none⟩ = false := by simp [World.frozen?, hz]
      have q2 : w5.cell? ⟨w.heap.size, 2, none⟩ = some (.slice none 0 0) := by simp [World.cell?, hz]
      have f2 : w5.frozen? ⟨w.heap.size, 2, none⟩ = false := by simp [World.frozen?, hz]
      have q3 : w5.cell? ⟨w.heap.size, 3, none⟩ = some (.slice none 0 0) := by simp [World.cell?, hz]
      have f3 : w5.frozen? ⟨w.heap.size, 3, none⟩ = false := by simp [World.frozen?, hz]
      have q4 : w5.cell? ⟨w.heap.size, 4, none⟩ = some (.slice none 0 0) := by simp [World.cell?, hz]
      have f4 : w5.frozen? ⟨w.heap.size, 4, none⟩ = false := by simp [World.frozen?, hz]
      clear hz hb
      go_wp2_with fail
      refine method_end rfl rfl (cells5_at HZ0.out _ _ _ _ _) rfl ?_
      exact decpost_no HNO.out (grown5_below HB0.out _ _ _ _ _)
    | some f =>
      rw [hf] at hF
      simp only [Option.getD_some, Option.isSome_some] at hF
      have HF := Lib.hid hF
      have HSM := Lib.hid (form_small hf)
      have HR := Lib.hid (HRUN.out f hf)
      obtain ⟨total, htot⟩ : ∃ t, t = runD f.data.toList ⟨[], [], [], r2⟩ := ⟨_, rfl⟩
      rw [← htot] at HR
      have HTO := Lib.hid htot
      have HLR := Lib.hid (show LR w3 (w.heap.size + 1) w2.heap.size from ⟨by have := HGL.out; have := HML.out; omega, HML.out, by have := HGL.out; omega⟩)
      have hfI : (f.size : Int) ≤ 6 := by have := HSM.out.1; omega
      clear hF hf htot
      go_upto_region 5 with (go_at_call 24; refine (HF.out).mono ?_; rintro e w5 ⟨rfl, b5⟩; have B5 := Lib.hid b5; clear b5)
      have R5 := Lib.hid (rx_below RW.out B5.out)
      have D5 := Lib.hid (DR.below (⟨MW.out, own_nil _ _ _ _, own_nil _ _ _ _, .inl ⟨rfl, rfl⟩, GW.out, (fun k hk => by cases hk), (fun k hk => by cases hk)⟩ : DR w3 W (w.heap.size + 1) w2.heap.size a b (.slice none 0 0) (.slice none 0 0) (.slice none 0 0) [] [] []) HLR.out B5.out)
      obtain ⟨d0, d1, _, _⟩ := rr_facts (show RR w5 (w.heap.size + 1) r2 false from R5.out)
      clear HF MW GW RW m0 m1 m2 m3 m4
      go_wp2_with fail
      go_loopw [8] (fun i wr => ∃ (pos : Nat) (vn vt vp : Value) (ns : List Int) (ts : List ByteArray) (ps : List Prp) (o : Option ByteArray), pos ≤ f.size ∧ i = .int .i64 pos ∧ Hid (RI2 w3 wr (w.heap.size + 1) w2.heap.size f pos a b total vn vt vp ns ts ps o)) (fun i _ => f.size - (intOf i).toNat)
      case atStart => exact ⟨0, _, _, _, [], [], [], some r2, Nat.zero_le _, rfl, Lib.hid ⟨D5.out, R5.out, by rw [HTO.out]; rfl, fun r h => by injection h with h; rw [← h]; exact HR2.out, Nat.le_refl _, Nat.le_refl _⟩⟩
      case round =>
        obtain ⟨pos, vn, vt, vp, ns, ts, ps, o, hpos, rfl, HI⟩ := hrel
        clear HTO R5 D5 d0 d1
        by_cases hlt : pos < f.size
        · have hdr := drop_at hlt
          obtain ⟨x, hx⟩ : ∃ x : UInt8, x = f[pos] := ⟨_, rfl⟩
          have hxv : f[pos] = x := hx.symm
          have hltI : (pos : Int) < f.size := by omega
          rw [← hx] at hdr
          have HTT := Lib.hid (show total = runO (x :: f.data.toList.drop (pos + 1)) ns ts ps o from by rw [← hdr]; exact HI.out.tot)
          have HPOS := Lib.hid hlt
          obtain ⟨z, hz⟩ : ∃ z, z = sizeOf' (x.toNat : Int) := ⟨_, rfl⟩
          have hSZ := refSize_c (w := wr) x
          rw [← hz] at hSZ
          have HSZC := Lib.hid hSZ
          have HZ := Lib.hid hz
          have HP6 := Lib.hid (show pos + 1 ≤ 6 by have := HSM.out.1; omega)
          clear hdr hx hz hSZ hpos
          go_upto_region 12 with (go_at_call 46; refine (HSZC.out).mono ?_; rintro e w5 ⟨rfl, rfl⟩)
          clear hxv hltI
          by_cases hz0 : 0 < z
          · have hzI : (0 : Int) < z := by omega
            have HZI := Lib.hid hz0
            have hz8 : z ≤ 8 := by rw [HZ.out]; rcases size_cases (x.toNat : Int) with e | e | e | e | e <;> omega
            have HN := xNumber_c HI.out.rx z hz8 z rfl
            obtain ⟨O, hO⟩ : ∃ O, O = o.bind (numP z) := ⟨_, rfl⟩
            obtain ⟨q, hq⟩ : ∃ q, q = outX 0 O := ⟨_, rfl⟩
            have hq64 : q < 18446744073709551616 := by
              have h8 := out_lt (k := z) (o := o)
              have : 256 ^ z ≤ 256 ^ 8 := Nat.pow_le_pow_right (by decide) hz8
              have e8 : (256 : Nat) ^ 8 = 18446744073709551616 := by decide
              rw [hq, hO]
              omega
            unfold XPost at HN
            rw [← hO, ← hq] at HN
            dsimp only at HN
            have HNC := Lib.hid HN
            have HRZ := Lib.hid (show ∀ r, leftX O = some r → r.size ≤ 1073741824 from by rw [hO]; exact left_size (f := numP z) numP_left HI.out.rz)
            by_cases hneg : q < 9223372036854775808
            · have hst := Lib.hid (show total = runO (f.data.toList.drop (pos + 1)) (ns ++ [((q : Nat) : Int)]) ts ps (leftX O) from by rw [hq, hO]; rw [hq, hO] at hneg; exact ro_num HTT.out HZ.out hz0 hneg)
              have hw : IntKind.i64.wrap (q : Int) = (q : Int) := IntWalk.i64_in _ (by omega)
              obtain ⟨N, hN⟩ : ∃ N : Int, N = (q : Int) := ⟨_, rfl⟩
              rw [← hN] at hw hst HNC
              have hN0 : 0 ≤ N := by omega
              clear HN hneg hq64 hN hq hO hz8 hz0
              go_wp2_with (first
                | (at_builtin; refine rapp_num D6.out HLR.out R6.out N (by have := HI.out.ln; have := HP6.out; omega) rfl (.tmp 64) (.tmp 66) rfl rfl rfl ?_; intro A8 c8 w8 M8 d9 r9; have D9 := Lib.hid d9; have R9 := Lib.hid r9; obtain ⟨_, _, k2, _, _⟩ := mb_facts M8; have n2 := mb_frozen M8 2; clear d9 r9)
                | (go_at_call 52; refine (HNC.out).mono ?_; rintro e w6 ⟨rfl, r6, g6⟩; have D6 := Lib.hid (HI.out.dr.step HLR.out g6 (.inr rfl)); have R6 := Lib.hid r6; obtain ⟨m0, m1, m2, m3, m4⟩ := mb_facts D6.out.mb; clear r6 g6))
              go_roundw
              case rel => exact ⟨pos + 1, _, vt, vp, ns ++ [N], ts, ps, leftX O, HPOS.out, by go_num, Lib.hid ⟨D9.out, R9.out, hst.out, HRZ.out, by have := HI.out.ln; simp only [List.length_append, List.length_cons, List.length_nil]; omega, Nat.le_succ_of_le HI.out.lt⟩⟩
              case measure => have := HPOS.out; simp [intOf]; omega
            · have hst := Lib.hid (show total = none from by rw [hq, hO] at hneg; exact ro_neg HTT.out HZ.out hz0 hneg)
              have hw : IntKind.i64.wrap (q : Int) = (q : Int) - 18446744073709551616 := by rw [IntKind.wrap_i64]; omega
              obtain ⟨N, hN⟩ : ∃ N : Int, N = (q : Int) - 18446744073709551616 := ⟨_, rfl⟩
              rw [← hN] at hw
              have hN0 : N < 0 := by omega
              clear HN hneg hq64 hN hq hO hz8 hz0
              go_wp2_with (first
                | (at_builtin; refine rapp_num D6.out HLR.out R6.out N (by have := HI.out.ln; have := HP6.out; omega) rfl (.tmp 64) (.tmp 66) rfl rfl rfl ?_; intro A8 c8 w8 M8 d9 r9; have D9 := Lib.hid d9; have R9 := Lib.hid r9; obtain ⟨_, _, k2, _, _⟩ := mb_facts M8; have n2 := mb_frozen M8 2; clear d9 r9)
                | (go_at_call 52; refine (HNC.out).mono ?_; rintro e w5 ⟨rfl, r5, g5⟩; obtain ⟨w6, hw6⟩ : ∃ w6, w6 = w5.setCell ⟨w.heap.size + 1, 1, none⟩ (.bool true) := ⟨_, rfl⟩; have hw6' := hw6.symm; have HW6 := Lib.hid hw6; have D6 := Lib.hid (show DR w3 w6 (w.heap.size + 1) w2.heap.size a b vn vt vp ns ts ps from by rw [hw6]; exact (HI.out.dr.step HLR.out g5 (.inr rfl)).step HLR.out (grownBy_set _ _ _ _) (.inr rfl)); have R6 := Lib.hid (show RX w6 (w.heap.size + 1) none from by rw [hw6]; exact rx_set1 r5); obtain ⟨m0, m1, m2, m3, m4⟩ := mb_facts D6.out.mb; obtain ⟨s9, b9, d0, d1, d2⟩ := rx_facts r5; clear r5 g5 hw6))
              go_roundw
              case rel => exact ⟨pos + 1, _, vt, vp, ns ++ [N], ts, ps, none, HPOS.out, by go_num, Lib.hid ⟨D9.out, R9.out, by rw [hst.out]; rfl, (fun r h => by cases h), by have := HI.out.ln; simp only [List.length_append, List.length_cons, List.length_nil]; omega, Nat.le_succ_of_le HI.out.lt⟩⟩
              case measure => have := HPOS.out; simp [intOf]; omega
          · have hz1 : z = 0 := by omega
            subst hz1
            clear hz0
            obtain ⟨m0, m1, m2, m3, m4⟩ := mb_facts HI.out.dr.mb
            by_cases hx : x = 84
            · have HX := Lib.hid hx
              have hxI : ((x.toNat : Int) == 84) = true := by rw [hx]; rfl
              have HTB := refTable_c HI.out.rx HI.out.rz
              obtain ⟨O, hO⟩ : ∃ O, O = o.bind tableP := ⟨_, rfl⟩
              have hst := Lib.hid (show total = runO (f.data.toList.drop (pos + 1)) ns ts (outX [] O) (leftX O) from by rw [hO]; exact ro_tab HTT.out HZ.out hx)
              have HRZ := Lib.hid (show ∀ r, leftX O = some r → r.size ≤ 1073741824 from by rw [hO]; exact left_size (f := tableP) tabP_left HI.out.rz)
              rw [← hO] at HTB
              unfold RTabPost at HTB
              have HTC := Lib.hid HTB
              clear hx HTB hO
              go_wp2_with (go_at_call 39; refine (HTC.out).mono ?_; rintro e w6 ⟨v6, rfl, hv6, hr6, g6⟩; obtain ⟨A6, c6, rfl⟩ := rc_any (ownP_rpr hv6); have D9 := Lib.hid (HI.out.dr.set4 HLR.out g6 hv6); have R9 := Lib.hid (rx_kept hr6 (grownBy_set w6 w2.heap.size 4 (.slice A6 (outX [] O).length c6)) (fun e => HLR.out.gm (by injection e with e; exact e.symm))); have D6 := HI.out.dr.step HLR.out g6 (.inr rfl); obtain ⟨_, _, _, _, k4⟩ := mb_facts D6.mb; have n4 := mb_frozen D6.mb 4; clear g6 hv6 hr6 D6)
              go_roundw
              case rel => exact ⟨pos + 1, vn, vt, _, ns, ts, outX [] O, leftX O, HPOS.out, by go_num, Lib.hid ⟨D9.out, R9.out, hst.out, HRZ.out, Nat.le_succ_of_le HI.out.ln, Nat.le_succ_of_le HI.out.lt⟩⟩
              case measure => have := HPOS.out; simp [intOf]; omega
            · have HX := Lib.hid hx
              have hxI : ((x.toNat : Int) == 84) = false := beq_eq_false_iff_ne.2 (fun e => hx (UInt8.toNat_inj.1 (by show x.toNat = 84; omega)))
              clear hx
              by_cases hs : x = 115
              · have HS5 := Lib.hid hs
                have hsI : ((x.toNat : Int) == 115) = true := by rw [hs]; rfl
                have HTB := xShort_c (w := wr.drew) HI.out.rx
                obtain ⟨O, hO⟩ : ∃ O, O = o.bind shortP := ⟨_, rfl⟩
                obtain ⟨y, hy⟩ : ∃ y, y = outX ByteArray.empty O := ⟨_, rfl⟩
                have hst := Lib.hid (show total = runO (f.data.toList.drop (pos + 1)) ns (ts ++ [y]) ps (leftX O) from by rw [hy, hO]; exact ro_short HTT.out HZ.out HX.out hs)
                have HRZ := Lib.hid (show ∀ r, leftX O = some r → r.size ≤ 1073741824 from by rw [hO]; exact left_size (f := shortP) shortP_left HI.out.rz)
                unfold XPost at HTB
                rw [← hO, ← hy] at HTB
                have HTC := Lib.hid HTB
                clear hs HTB hO hy
                go_upto_region 20 with fail
                go_region_law (first
                  | (refine rstep_txt D6.out HLR.out R6.out y (by have := HI.out.lt; have := HP6.out; omega) rfl (.tmp 77) (.tmp 80) rfl rfl rfl ?_; intro A8 c8 w8 M8 d9 r9; have D9 := Lib.hid d9; have R9 := Lib.hid r9; obtain ⟨_, _, _, k3, _⟩ := mb_facts M8; have n3 := mb_frozen M8 3; clear d9 r9)
                  | (go_simp; go_at_call 53; refine (HTC.out).mono ?_; rintro e w6 ⟨rfl, r6, g6⟩; have D6 := Lib.hid (HI.out.dr.step HLR.out (grownBy_trans (grownBy_below (below_drewN wr 1) _) g6) (.inr rfl)); have R6 := Lib.hid r6; obtain ⟨_, _, _, k3, _⟩ := mb_facts D6.out.mb; have k3a : (w6.alloc (.cells #[.string y] 9)).cell? ⟨w2.heap.size, 3, none⟩ = some vt := cell_below (below_al1 w6 _) (World.block_lt_of_cell? w6 _ k3) k3; clear r6 g6))
                all_goals
                  go_wp2_with fail
                  go_roundw
                  case rel => exact ⟨pos + 1, vn, _, vp, ns, ts ++ [y], ps, leftX O, HPOS.out, by go_num, Lib.hid ⟨D9.out, R9.out, hst.out, HRZ.out, Nat.le_succ_of_le HI.out.ln, by have := HI.out.lt; simp only [List.length_append, List.length_cons, List.length_nil]; omega⟩⟩
                  case measure => have := HPOS.out; simp [intOf]; omega
              · have HS5 := Lib.hid hs
                have hsI : ((x.toNat : Int) == 115) = false := beq_eq_false_iff_ne.2 (fun e => hs (UInt8.toNat_inj.1 (by show x.toNat = 115; omega)))
                have HTB := xLong_c HI.out.rx
                obtain ⟨O, hO⟩ : ∃ O, O = o.bind longP := ⟨_, rfl⟩
                obtain ⟨y, hy⟩ : ∃ y, y = outX ByteArray.empty O := ⟨_, rfl⟩
                unfold XPost at HTB
                rw [← hO, ← hy] at HTB
                have HTC := Lib.hid HTB
                have HRZ := Lib.hid (show ∀ r, leftX O = some r → r.size ≤ 1073741824 from by rw [hO]; exact left_size (f := longP) longP_left HI.out.rz)
                by_cases hyz : y.size ≤ 1024
                · have hst := Lib.hid (show total = runO (f.data.toList.drop (pos + 1)) ns (ts ++ [y]) ps (leftX O) from by rw [hy, hO] at hyz ⊢; exact ro_long HTT.out HZ.out HX.out hs hyz)
                  have hyI : (y.size : Int) ≤ 1024 := by omega
                  clear hs HTB hO hy hyz
                  go_wp2_with (first
                    | (at_builtin; refine rapp_txt D6.out HLR.out R6.out y (by have := HI.out.lt; have := HP6.out; omega) rfl (.tmp 92) (.tmp 94) rfl rfl rfl ?_; intro A8 c8 w8 M8 d9 r9; have D9 := Lib.hid d9; have R9 := Lib.hid r9; obtain ⟨_, _, _, k3, _⟩ := mb_facts M8; have n3 := mb_frozen M8 3; clear d9 r9)
                    | (go_at_call 54; refine (HTC.out).mono ?_; rintro e w6 ⟨rfl, r6, g6⟩; have D6 := Lib.hid (HI.out.dr.step HLR.out g6 (.inr rfl)); have R6 := Lib.hid r6; obtain ⟨_, _, _, k3, _⟩ := mb_facts D6.out.mb; clear r6 g6))
                  go_roundw
                  case rel => exact ⟨pos + 1, vn, _, vp, ns, ts ++ [y], ps, leftX O, HPOS.out, by go_num, Lib.hid ⟨D9.out, R9.out, hst.out, HRZ.out, Nat.le_succ_of_le HI.out.ln, by have := HI.out.lt; simp only [List.length_append, List.length_cons, List.length_nil]; omega⟩⟩
                  case measure => have := HPOS.out; simp [intOf]; omega
                · have hst := Lib.hid (show total = none from by rw [hy, hO] at hyz; exact ro_big HTT.out HZ.out HX.out hs hyz)
                  have hyI : (1024 : Int) < y.size := by omega
                  clear hs HTB hO hy hyz
                  go_wp2_with (first
                    | (at_builtin; refine rapp_txt D6.out HLR.out R6.out y (by have := HI.out.lt; have := HP6.out; omega) rfl (.tmp 92) (.tmp 94) rfl rfl rfl ?_; intro A8 c8 w8 M8 d9 r9; have D9 := Lib.hid d9; have R9 := Lib.hid r9; obtain ⟨_, _, _, k3, _⟩ := mb_facts M8; have n3 := mb_frozen M8 3; clear d9 r9)
                    | (go_at_call 54; refine (HTC.out).mono ?_; rintro e w5 ⟨rfl, r5, g5⟩; obtain ⟨w6, hw6⟩ : ∃ w6, w6 = w5.setCell ⟨w.heap.size + 1, 1, none⟩ (.bool true) := ⟨_, rfl⟩; have hw6' := hw6.symm; have HW6 := Lib.hid hw6; have D6 := Lib.hid (show DR w3 w6 (w.heap.size + 1) w2.heap.size a b vn vt vp ns ts ps from by rw [hw6]; exact (HI.out.dr.step HLR.out g5 (.inr rfl)).step HLR.out (grownBy_set _ _ _ _) (.inr rfl)); have R6 := Lib.hid (show RX w6 (w.heap.size + 1) none from by rw [hw6]; exact rx_set1 r5); obtain ⟨_, _, _, k3, _⟩ := mb_facts D6.out.mb; obtain ⟨s9, b9, d0, d1, d2⟩ := rx_facts r5; clear r5 g5 hw6))
                  go_roundw
                  case rel => exact ⟨pos + 1, vn, _, vp, ns, ts ++ [y], ps, none, HPOS.out, by go_num, Lib.hid ⟨D9.out, R9.out, by rw [hst.out]; rfl, (fun r h => by cases h), Nat.le_succ_of_le HI.out.ln, by have := HI.out.lt; simp only [List.length_append, List.length_cons, List.length_nil]; omega⟩⟩
                  case measure => have := HPOS.out; simp [intOf]; omega
        · have hge : (f.size : Int) ≤ pos := by omega
          have hnil : f.data.toList.drop pos = [] := List.drop_eq_nil_of_le (by rw [ba_size]; omega)
          have HDR := Lib.hid HI.out.dr
          have HEN := Lib.hid (show decP s = (o.bind fun r => some (⟨ns, ts, ps, r⟩ : DSt)).bind fun st => if st.r.size = 0 then some ⟨a, b, st.ns, st.ts, st.ps⟩ else none from by rw [HR.out, HI.out.tot, hnil]; rfl)
          clear hlt hnil hpos
          cases o with
          | none =>
            have HNO := Lib.hid (show decP s = none from HEN.out)
            obtain ⟨s9, r9⟩ := HI.out.rx
            obtain ⟨d0, d1, _, _⟩ := rr_facts r9
            clear r9
            obtain ⟨hz, hb⟩ := ends_c Z3.out HDR.out.two HGL.out HML.out B3.out
            have HZ0 := Lib.hid hz
            have HB0 := Lib.hid hb
            have q0 : wr.cell? ⟨w.heap.size, 0, none⟩ = some (.int .i64 0) := by simp [World.cell?, hz]
            have f0 : wr.frozen? ⟨w.heap.size, 0, none⟩ = false := by simp [World.frozen?, hz]
            have q1 : wr.cell? ⟨w.heap.size, 1, none⟩ = some (.int .i64 0) := by simp [World.cell?, hz]
            have f1 : wr.frozen? ⟨w.heap.size, 1, none⟩ = false := by simp [World.frozen?, hz]
            have q2 : wr.cell? ⟨w.heap.size, 2, none⟩ = some (.slice none 0 0) := by simp [World.cell?, hz]
            have f2 : wr.frozen? ⟨w.heap.size, 2, none⟩ = false := by simp [World.frozen?, hz]
            have q3 : wr.cell? ⟨w.heap.size, 3, none⟩ = some (.slice none 0 0) := by simp [World.cell?, hz]
            have f3 : wr.frozen? ⟨w.heap.size, 3, none⟩ = false := by simp [World.frozen?, hz]
            have q4 : wr.cell? ⟨w.heap.size, 4, none⟩ = some (.slice none 0 0) := by simp [World.cell?, hz]
            have f4 : wr.frozen? ⟨w.heap.size, 4, none⟩ = false := by simp [World.frozen?, hz]
            clear hz hb
            go_wp2_with fail
            refine method_end rfl rfl (cells5_at HZ0.out _ _ _ _ _) rfl ?_
            exact decpost_no HNO.out (grown5_below HB0.out _ _ _ _ _)
          | some r9 =>
            obtain ⟨d0, d1, _, _⟩ := rr_facts (show RR wr (w.heap.size + 1) r9 false from HI.out.rx)
            by_cases hr0 : r9.size = 0
            · have HYES := Lib.hid (show decP s = some ⟨a, b, ns, ts, ps⟩ by rw [HEN.out]; exact if_pos hr0)
              rw [ba_nil hr0] at d0
              clear hr0
              obtain ⟨A1, c1, rfl⟩ := rc_any (own_rc HDR.out.oi)
              obtain ⟨A2, c2, rfl⟩ := rc_any (own_rc HDR.out.os)
              obtain ⟨A3, c3, rfl⟩ := rc_any (ownP_rpr HDR.out.op)
              obtain ⟨m0, m1, m2, m3, m4⟩ := mb_facts HDR.out.mb
              obtain ⟨hz, hb⟩ := ends_c Z3.out HDR.out.two HGL.out HML.out B3.out
              have HZ0 := Lib.hid hz
              have HB0 := Lib.hid hb
              have q0 : wr.cell? ⟨w.heap.size, 0, none⟩ = some (.int .i64 0) := by simp [World.cell?, hz]
              have f0 : wr.frozen? ⟨w.heap.size, 0, none⟩ = false := by simp [World.frozen?, hz]
              have q1 : wr.cell? ⟨w.heap.size, 1, none⟩ = some (.int .i64 0) := by simp [World.cell?, hz]
              have f1 : wr.frozen? ⟨w.heap.size, 1, none⟩ = false := by simp [World.frozen?, hz]
              have q2 : wr.cell? ⟨w.heap.size, 2, none⟩ = some (.slice none 0 0) := by simp [World.cell?, hz]
              have f2 : wr.frozen? ⟨w.heap.size, 2, none⟩ = false := by simp [World.frozen?, hz]
              have q3 : wr.cell? ⟨w.heap.size, 3, none⟩ = some (.slice none 0 0) := by simp [World.cell?, hz]
              have f3 : wr.frozen? ⟨w.heap.size, 3, none⟩ = false := by simp [World.frozen?, hz]
              have q4 : wr.cell? ⟨w.heap.size, 4, none⟩ = some (.slice none 0 0) := by simp [World.cell?, hz]
              have f4 : wr.frozen? ⟨w.heap.size, 4, none⟩ = false := by simp [World.frozen?, hz]
              clear hz hb
              go_wp2_with fail
              refine method_end rfl rfl (cells5_at HZ0.out _ _ _ _ _) rfl ?_
              obtain ⟨k1, k2, k3⟩ := dr_set5 HDR.out (show w.heap.size < w3.heap.size by have := HGL.out; have := HML.out; omega) (show w.heap.size ≤ w3.heap.size by have := HGL.out; have := HML.out; omega) (.int .i64 a) (.int .i64 b) (.slice A1 ns.length c1) (.slice A2 ts.length c2) (.slice A3 ps.length c3)
              exact decpost_yes HYES.out (grown5_below HB0.out _ _ _ _ _) k1 k2 k3 HDR.out.di
            · have HNO := Lib.hid (show decP s = none by rw [HEN.out]; exact if_neg hr0)
              have hE := ne_nil r9 (by omega)
              clear hr0
              obtain ⟨hz, hb⟩ := ends_c Z3.out HDR.out.two HGL.out HML.out B3.out
              have HZ0 := Lib.hid hz
              have HB0 := Lib.hid hb
              have q0 : wr.cell? ⟨w.heap.size, 0, none⟩ = some (.int .i64 0) := by simp [World.cell?, hz]
              have f0 : wr.frozen? ⟨w.heap.size, 0, none⟩ = false := by simp [World.frozen?, hz]
              have q1 : wr.cell? ⟨w.heap.size, 1, none⟩ = some (.int .i64 0) := by simp [World.cell?, hz]
              have f1 : wr.frozen? ⟨w.heap.size, 1, none⟩ = false := by simp [World.frozen?, hz]
              have q2 : wr.cell? ⟨w.heap.size, 2, none⟩ = some (.slice none 0 0) := by simp [World.cell?, hz]
              have f2 : wr.frozen? ⟨w.heap.size, 2, none⟩ = false := by simp [World.frozen?, hz]
              have q3 : wr.cell? ⟨w.heap.size, 3, none⟩ = some (.slice none 0 0) := by simp [World.cell?, hz]
              have f3 : wr.frozen? ⟨w.heap.size, 3, none⟩ = false := by simp [World.frozen?, hz]
              have q4 : wr.cell? ⟨w.heap.size, 4, none⟩ = some (.slice none 0 0) := by simp [World.cell?, hz]
              have f4 : wr.frozen? ⟨w.heap.size, 4, none⟩ = false := by simp [World.frozen?, hz]
              clear hz hb
              go_wp2_with fail
              refine method_end rfl rfl (cells5_at HZ0.out _ _ _ _ _) rfl ?_
              exact decpost_no HNO.out (grown5_below HB0.out _ _ _ _ _)
end Go.Proofs.YteigbejidfkhpaaDoor

/- Layer 15: table.Encode. -/
namespace Go.Proofs.YteigbejidfkhpaaDoor
open Go Go.RowKit Go.Sort
set_option linter.unusedSimpArgs false
set_option linter.unusedVariables false

set_option maxRecDepth 100000 in
set_option maxHeartbeats 4000000 in
theorem tEncode_c {w : World} (c i : Int) (ns : List Int) (ts : List ByteArray) (ps : List Prp) {vn vt vp : Value} (hn : RI w vn ns) (ht : RS w vt ts) (hp : RPr w vp ps)
    (hns : ∀ n ∈ ns, n ≤ 9223372036854775807) (hnl : ns.length ≤ 140737488351232) (htl : ts.length ≤ 140737488351232) (hsz : ∀ p ∈ ps, p.nm.size ≤ 140737488351232) (hr : ∀ p ∈ ps, p.r < 18446744073709551616) :
    Calls Tryd.prog 11 #[.agg #[.int .i64 c, .int .i64 i, vn, vt, vp]] w (EncM w (Mth.bytes ⟨c, i, ns, ts, ps⟩)) := by
  obtain ⟨An, cn, rfl, hn1⟩ := rc_form hn
  obtain ⟨At, ct, rfl, ht1⟩ := rc_form ht
  obtain ⟨Ap, cp, rfl, hp1⟩ := rc_form hp
  obtain ⟨total, htot⟩ : ∃ t, t = Mth.bytes ⟨c, i, ns, ts, ps⟩ := ⟨_, rfl⟩
  rw [← htot]
  have HN := Lib.hid hn
  have HTX := Lib.hid ht
  have HP := Lib.hid hp
  have HNS := Lib.hid hns
  have HSZ := Lib.hid hsz
  have HR := Lib.hid hr
  have bW := Lib.hid ((Below.refl w.heap.size w).alloc (Nat.le_refl _) (.cells #[.int .i64 c, .int .i64 i, .slice An ns.length cn, .slice At ts.length ct, .slice Ap ps.length cp] 26))
  have hF := form_c (w := w.alloc (.cells #[.int .i64 c, .int .i64 i, .slice An ns.length cn, .slice At ts.length ct, .slice Ap ps.length cp] 26)) c i
  have HNL := Lib.hid hnl
  have HTL := Lib.hid htl
  clear hn ht hp hns hsz hr hnl htl
  cases hf : formCI c i with
  | none =>
    rw [hf] at hF
    simp only [Option.getD_none, Option.isSome_none] at hF
    have HF := Lib.hid hF
    have HT := Lib.hid (show total = none by rw [htot]; unfold Mth.bytes; rw [hf]; rfl)
    clear hF htot hf
    go_enter Tryd.func11, Tryd.ntmps11
    go_wp2_with fail
    refine (HF.out).mono ?_
    rintro e w1 ⟨rfl, rfl⟩
    go_wp2_with fail
    go_ret2
    exact encM_no HT.out bW.out
  | some s =>
    rw [hf] at hF
    simp only [Option.getD_some, Option.isSome_some] at hF
    have HF := Lib.hid hF
    have hT : total = (encB s.data.toList ns ts 0 ps).map ((beB c.toNat 2 ++ beB i.toNat 2) ++ ·) := by rw [htot]; unfold Mth.bytes; rw [hf]; rfl
    have HT := Lib.hid hT
    have HSM := Lib.hid (form_small hf)
    obtain ⟨r1, r2, r3, r4⟩ := form_range hf
    obtain ⟨cn', rfl⟩ := Int.eq_ofNat_of_zero_le r1
    obtain ⟨im', rfl⟩ := Int.eq_ofNat_of_zero_le r3
    clear hF htot hf hT
    have hMB := mb_new w cn' im' (.slice An ns.length cn) (.slice At ts.length ct) (.slice Ap ps.length cp)
    have hMB' : MB (w.alloc (.cells #[.int .i64 cn', .int .i64 im', .slice An ns.length cn, .slice At ts.length ct, .slice Ap ps.length cp] 26)).drew w.heap.size cn' im' (.slice An ns.length cn) (.slice At ts.length ct) (.slice Ap ps.length cp) := hMB
    have HMB := Lib.hid hMB'
    have bD := Lib.hid bW.out.drew
    clear hMB hMB'
    go_enter Tryd.func11, Tryd.ntmps11
    go_wp2_with fail
    refine (HF.out).mono ?_
    rintro e w1 ⟨rfl, rfl⟩
    clear HF
    go_wp2_with fail
    obtain ⟨q0, q1, q2, q3, q4⟩ := mb_facts HMB.out
    go_region_held3 (fun w' => w'.cell? ⟨w.heap.size, 0, none⟩ = some (.int .i64 cn') ∧ w'.cell? ⟨w.heap.size, 1, none⟩ = some (.int .i64 im'))
      (first | exact ⟨q0, q1⟩ | go_keep)
      (first
        | (go_at_call 28; refine (bigO_c2 (base := w.heap.size) O2.out B2.size (by simp [beB_len]) im' 2 (by omega) (by omega) _ 2 (by first | rfl | exact IntWalk.u64_in _ (by omega)) rfl).mono ?_; rintro e w3 ⟨v3, rfl, o3, b3, k3⟩; have B3 := B2.trans b3; have O3 := Lib.hid o3; have HMB3 := Lib.hid (mb_keeps HMB2.out k3); obtain ⟨q0, q1, q2, q3, q4⟩ := mb_facts HMB3.out; clear o3 b3 k3)
        | (go_at_call 28; refine (bigO_c2 (base := w.heap.size) (ob_nil _ _) bD.out.size (by simp) cn' 2 (by omega) (by omega) _ 2 (by first | rfl | exact IntWalk.u64_in _ (by omega)) rfl).mono ?_; rintro e w2 ⟨v2, rfl, o2, b2, k2⟩; have B2 := bD.out.trans b2; have O2 := Lib.hid o2; have HMB2 := Lib.hid (mb_keeps HMB.out k2); obtain ⟨q0, q1, q2, q3, q4⟩ := mb_facts HMB2.out; clear o2 b2 k2))
    go_wp2_with fail
    go_quiet (fail)
    go_wp2_with fail
    rw [show IntKind.u64.wrap (cn' : Int) = cn' from IntWalk.u64_in _ (by omega), show IntKind.u64.wrap (im' : Int) = im' from IntWalk.u64_in _ (by omega)]
    have HIB := Lib.hid (show w.heap.size ≤ w3.heap.size from B3.size)
    go_loopw [6, 7, 8, 9] (fun b n t tb wr => ∃ (pos : Nat) (pre : List UInt8) (ns' : List Int) (ts' : List ByteArray) (k : Nat) (A7 A8 : Option Addr) (c7 c8 : Nat), pos ≤ s.size ∧ n = .slice A7 ns'.length c7 ∧ t = .slice A8 ts'.length c8 ∧ tb = .int .i64 k ∧ Hid (k ≤ pos) ∧ Hid (EI w wr cn' im' (.slice An ns.length cn) (.slice At ts.length ct) (.slice Ap ps.length cp) w3.heap.size s ps total pos pre ns' ts' k b n t)) (fun _ _ _ _ wr => s.size - wr.iterPos w3.heap.size)
    case atStart =>
      exact ⟨0, beB cn' 2 ++ beB im' 2, ns, ts, 0, An, At, cn, ct, Nat.zero_le _, rfl, rfl, rfl, Lib.hid (Nat.le_refl _), Lib.hid ⟨(own_drew (O3.out)).alloc _, by have h := mb_keeps HMB3.out (keepsO_alloc w3 (.stringIter s 0)); exact h, World.iter_heap (w3.drewN nq) s 0, (B3.trans (below_drewN w3 nq |>.mono B3.size)).alloc B3.size _, HN.out, HTX.out, by simp [beB_len], by rw [HT.out]; rfl, HNS.out, HNL.out, HTL.out⟩⟩
    case round =>
      obtain ⟨pos, pre, ns', ts', k, A7, A8, c7, c8, hpos, rfl, rfl, rfl, HK, HE⟩ := hrel
      clear HT O3 O2 HMB2 HMB3 HMB B3 B2 bD bW HN HTX HNS q0 q1 q2 q3 q4
      by_cases hlt : pos < s.size
      · have hnx : ∀ ty, (Instr.next (.pointer (some ⟨w3.heap.size, 0, none⟩)) true ty).run Tryd.prog wr = .ok (.tuple #[.bool true, .int .i64 pos, .int .i32 (s[pos]'hlt).toNat]) (wr.iterAt w3.heap.size s (pos + 1)) := fun ty => Lib.run_next_ascii_at wr _ s pos ty HE.out.it hlt (small_at HSM.out hlt)
        obtain ⟨W, hW⟩ : ∃ W, W = wr.iterAt w3.heap.size s (pos + 1) := ⟨_, rfl⟩
        rw [← hW] at hnx
        have O1 := Lib.hid (show OB W _ _ _ by rw [hW]; exact own_iterAt HE.out.own HE.out.it (pos + 1))
        have M1 := Lib.hid (show MB W _ _ _ _ _ _ by rw [hW]; exact mb_iterAt HE.out.mb HE.out.it (pos + 1))
        have I1 := Lib.hid (show W.heap[w3.heap.size]? = some (.stringIter s (pos + 1)) by rw [hW]; exact Lib.iterAt_heap _ _ _ _ _ HE.out.it)
        have B1 := Lib.hid (show Below w.heap.size w W by rw [hW]; exact Lib.below_iterAt HE.out.bel HIB.out s (pos + 1))
        have hdr := drop_at hlt
        have hmeas := Lib.hid (iterPos_of HE.out.it)
        obtain ⟨x, hx⟩ : ∃ x : UInt8, x = s[pos] := ⟨_, rfl⟩
        rw [← hx] at hnx hdr
        have HDR := Lib.hid hdr
        have HPOS := Lib.hid hlt
        obtain ⟨z, hz⟩ : ∃ z, z = sizeOf' (x.toNat : Int) := ⟨_, rfl⟩
        have hSZ := sizes_c (w := W) (x.toNat : Int)
        rw [← hz] at hSZ
        have HSZC := Lib.hid hSZ
        have HZ := Lib.hid hz
        clear hW hdr hx hlt hz hSZ hpos
        by_cases hz0 : 0 < z
        · have hzI : (0 : Int) < z := by omega
          have HZI := Lib.hid hzI
          clear hz0
          cases ns' with
          | nil =>
            go_wp2_with (go_at_call 29; refine (HSZC.out).mono ?_; rintro e w5 ⟨rfl, rfl⟩)
            go_ret2
            exact encM_no (enc_num_nil HE.out.tot HDR.out HZ.out HZI.out) B1.out
          | cons n ns' =>
            obtain ⟨a7, rfl, hc0⟩ := ri_head HE.out.ri
            have hc := cell_below B1.out (World.block_lt_of_cell? w _ hc0) hc0
            have hz4 : z = 1 ∨ z = 2 ∨ z = 4 ∨ z = 8 := by rw [HZ.out]; rcases size_cases (x.toNat : Int) with e | e | e | e | e <;> (have := HZ.out; omega)
            have hFT := fits_c (w := W) n z hz4
            have HZ4 := Lib.hid hz4
            have hlen : ((ns'.length : Int) + 1 == 0) = false := beq_eq_false_iff_ne.2 (by omega)
            clear hc0 hz4
            cases hft : fitsB n z with
            | false =>
              rw [hft] at hFT
              have HFT := Lib.hid hFT
              have HFF := Lib.hid hft
              clear hFT hft
              go_wp2_with (first
                | (go_at_call 29; refine (HSZC.out).mono ?_; rintro e w5 ⟨rfl, rfl⟩)
                | (go_at_call 30; refine (HFT.out).mono ?_; rintro e w6 ⟨rfl, rfl⟩))
              go_ret2
              exact encM_no (enc_num_bad HE.out.tot HDR.out HZ.out HZI.out HFF.out) B1.out
            | true =>
              rw [hft] at hFT
              have HFT := Lib.hid hFT
              obtain ⟨hn0, hn1⟩ := fits_lt hft (HE.out.big n (List.mem_cons_self ..)) HZ4.out
              have HFF := Lib.hid hft
              obtain ⟨m, rfl⟩ := Int.eq_ofNat_of_zero_le hn0
              obtain ⟨A7', hsl, hri, hlc⟩ := ri_tail w HE.out.ri
              have HRI := Lib.hid hri
              have HM := Lib.hid (show m < 18446744073709551616 by have := HE.out.big _ (List.mem_cons_self ..); omega)
              have HPL := Lib.hid (show pre.length ≤ 70368744177664 by have := HE.out.len; have := HSM.out.1; have := HPOS.out; omega)
              clear hFT hft hn0 hn1 hri
              go_wp2_with (first
                | (go_at_call 28; refine (bigO_c2 (base := w.heap.size) O1.out B1.out.size HPL.out m z HM.out (by have := HZ4.out; omega) _ _ (by first | rfl | exact IntWalk.u64_in _ (by have := HM.out; omega)) rfl).mono ?_; rintro e w7 ⟨v7, rfl, o7, b7, k7⟩; have O7 := Lib.hid o7; have M7 := Lib.hid (mb_keeps M1.out k7); have I7 := Lib.hid (iter_keeps I1.out k7); have B7 := Lib.hid (B1.out.trans b7); clear o7 b7 k7)
                | (go_at_call 30; refine (HFT.out).mono ?_; rintro e w6 ⟨rfl, rfl⟩)
                | (go_at_call 29; refine (HSZC.out).mono ?_; rintro e w5 ⟨rfl, rfl⟩))
              go_roundw
              case rel =>
                exact ⟨pos + 1, pre ++ beB m z, ns', ts', k, A7', A8, c7 - 1, c8, HPOS.out, rfl, rfl, rfl, Lib.hid (Nat.le_succ_of_le HK.out), Lib.hid ⟨O7.out, M7.out, I7.out, B7.out, HRI.out, HE.out.rs, by have := HE.out.len; have := HZ4.out; simp only [List.length_append, beB_len]; omega, enc_num_ok HE.out.tot HDR.out HZ.out HZI.out HFF.out, fun y hy => HE.out.big y (List.mem_cons_of_mem _ hy), Nat.le_trans (Nat.le_succ _) HE.out.ln, HE.out.lt⟩⟩
              case measure =>
                rw [iterPos_of I7.out, hmeas.out]
                have := HPOS.out
                omega
        · have hz1 : z = 0 := by omega
          subst hz1
          clear hz0
          by_cases hx : x = 84
          · have HX := Lib.hid hx
            have hxI : ((x.toNat : Int) == 84) = true := by rw [hx]; rfl
            clear hx
            cases hv : validB ps with
            | false =>
              have HPB := Lib.hid (putBad_c (v := u6) (rc_below HP.out B1.out) HSZ.out hv)
              have HV := Lib.hid hv
              obtain ⟨_, _, _, _, m4⟩ := mb_facts M1.out
              clear hv
              go_wp2_with (first
                | (go_at_call 29; refine (HSZC.out).mono ?_; rintro e w5 ⟨rfl, rfl⟩)
                | (go_at_call 14; refine (HPB.out).mono ?_; rintro e w6 ⟨rfl, b6⟩))
              go_ret2
              exact encM_no (enc_tab_bad HE.out.tot HDR.out HZ.out rfl HX.out HV.out) (B1.out.trans (b6.mono B1.out.size))
            | true =>
              have HPL := Lib.hid (show pre.length ≤ 17592186044416 by have := HE.out.len; have := HSM.out.1; have := HPOS.out; omega)
              have HPB := Lib.hid (put_c (base := 0) (ob_rb O1.out) HPL.out (rc_below HP.out B1.out) HSZ.out HR.out hv)
              have HV := Lib.hid hv
              have HPP := Lib.hid (show (propsB ps).length ≤ 4448 by have l1 := propsB_len ps (valid_all hv); have m1 := valid_len hv; omega)
              obtain ⟨_, _, _, _, m4⟩ := mb_facts M1.out
              have hkI : (k : Int) ≤ 6 := by have := HK.out; have := HPOS.out; have := HSM.out.1; omega
              clear hv
              go_wp2_with (first
                | (go_at_call 29; refine (HSZC.out).mono ?_; rintro e w5 ⟨rfl, rfl⟩)
                | (go_at_call 14; refine (HPB.out).mono ?_; rintro e w6 ⟨v6, rfl, o6, b6⟩; have O6 := Lib.hid (own_lower o6 B1.out.size); have M6 := Lib.hid (mb_keeps M1.out (keepsO_below b6)); have I6 := Lib.hid (iter_keeps I1.out (keepsO_below b6)); have B6 := Lib.hid (B1.out.trans (b6.mono B1.out.size)); clear o6 b6))
              go_roundw
              case rel =>
                exact ⟨pos + 1, pre ++ (beB (propsB ps).length 4 ++ propsB ps), ns', ts', k + 1, A7, A8, c7, c8, HPOS.out, rfl, rfl, by go_num, Lib.hid (Nat.succ_le_succ HK.out), Lib.hid ⟨by have h := O6.out; rw [List.append_assoc] at h; exact h, M6.out, I6.out, B6.out, HE.out.ri, HE.out.rs, by have := HE.out.len; have := HPP.out; simp only [List.length_append, beB_len]; omega, enc_tab_ok HE.out.tot HDR.out HZ.out rfl HX.out HV.out, HE.out.big, HE.out.ln, HE.out.lt⟩⟩
              case measure =>
                rw [iterPos_of I6.out, hmeas.out]
                have := HPOS.out
                omega
          · have HX := Lib.hid hx
            have hxI : ((x.toNat : Int) == 84) = false := beq_eq_false_iff_ne.2 (fun e => hx (UInt8.toNat_inj.1 (by show x.toNat = 84; omega)))
            clear hx
            cases ts' with
            | nil =>
              go_wp2_with (go_at_call 29; refine (HSZC.out).mono ?_; rintro e w5 ⟨rfl, rfl⟩)
              go_ret2
              exact encM_no (enc_txt_nil HE.out.tot HDR.out HZ.out rfl HX.out) B1.out
            | cons y ts' =>
              obtain ⟨a8, rfl, hc0⟩ := rs_head HE.out.rs
              have hc := cell_below B1.out (World.block_lt_of_cell? w _ hc0) hc0
              have HC0 := Lib.hid hc0
              have hlen : ((ts'.length : Int) + 1 == 0) = false := beq_eq_false_iff_ne.2 (by omega)
              clear hc0
              by_cases hy : 1024 < y.size
              · have hyI : (1024 : Int) < y.size := by omega
                have HY := Lib.hid hy
                clear hy
                go_wp2_with (go_at_call 29; refine (HSZC.out).mono ?_; rintro e w5 ⟨rfl, rfl⟩)
                go_ret2
                exact encM_no (enc_txt_bad HE.out.tot HDR.out HZ.out rfl HX.out (fun h => by have := HY.out; omega)) B1.out
              · have hyI : (y.size : Int) ≤ 1024 := by omega
                have HY := Lib.hid hy
                clear hy
                obtain ⟨A8', hsl, hrs, hlc⟩ := rs_tail w HE.out.rs
                have HRS := Lib.hid hrs
                have HPL := Lib.hid (show pre.length ≤ 70368744177664 by have := HE.out.len; have := HSM.out.1; have := HPOS.out; omega)
                clear hrs
                by_cases hs : x = 115
                · have HS := Lib.hid hs
                  have hsI : ((x.toNat : Int) == 115) = true := by rw [hs]; rfl
                  clear hs
                  by_cases hy2 : 255 < y.size
                  · have hy2I : (255 : Int) < y.size := by omega
                    have HY2 := Lib.hid hy2
                    clear hy2 hsl
                    go_wp2_with (go_at_call 29; refine (HSZC.out).mono ?_; rintro e w5 ⟨rfl, rfl⟩)
                    go_ret2
                    exact encM_no (enc_txt_bad HE.out.tot HDR.out HZ.out rfl HX.out (fun h => by have := HY2.out; have := h.2 HS.out; omega)) B1.out
                  · have hy2I : (y.size : Int) ≤ 255 := by omega
                    have HY2 := Lib.hid hy2
                    clear hy2
                    go_upto_region 15 with (go_at_call 29; refine (HSZC.out).mono ?_; rintro e w5 ⟨rfl, rfl⟩)
                    have OD := Lib.hid (show OB W.drew w.heap.size u6 pre from own_drew O1.out)
                    have MD := Lib.hid (show MB W.drew w.heap.size cn' im' (.slice An ns.length cn) (.slice At ts.length ct) (.slice Ap ps.length cp) from M1.out)
                    have ID := Lib.hid (show W.drew.heap[w3.heap.size]? = some (.stringIter s (pos + 1)) from I1.out)
                    have BD := Lib.hid (show Below w.heap.size w W.drew from B1.out.drew)
                    have q8 : W.drew.cell? a8 = some (.string y) := hc
                    go_region_held3 (fun w' => w'.cell? a8 = some (.string y))
                      (first | exact q8 | go_keep)
                      (first
                        | (refine step_app_s (w0 := w) (base := w.heap.size) (l := pre ++ beB y.size 1) rfl (.tmp 75) (.tmp 78) rfl y rfl rfl O5.out B5.out B5.out.size (by have := HE.out.len; have := HSM.out.1; have := HPOS.out; have := HY.out; simp only [List.length_append, beB_len]; omega) ?_; intro v7 w7 o7 B7 g7; have O7 := Lib.hid o7; have M7 := Lib.hid (mb_keeps M5.out (keepsO_grown O5.out g7)); have I7 := Lib.hid (iter_keeps I5.out (keepsO_grown O5.out g7)); have q8 := cell_below B7 (World.block_lt_of_cell? w _ HC0.out) HC0.out; clear o7 g7)
                        | (go_at_call 28; refine (bigO_c2 (base := w.heap.size) OD.out BD.out.size HPL.out y.size 1 (by have := HY.out; omega) (by omega) _ 1 (by first | rfl | exact IntWalk.u64_in _ (by have := HY.out; omega)) rfl).mono ?_; rintro e w5 ⟨v5, rfl, o5, b5, k5⟩; have O5 := Lib.hid o5; have M5 := Lib.hid (mb_keeps MD.out k5); have I5 := Lib.hid (iter_keeps ID.out k5); have B5 := Lib.hid (BD.out.trans b5); have q8 := cell_below B5.out (World.block_lt_of_cell? w _ HC0.out) HC0.out; clear o5 b5 k5))
                    go_wp2
                    go_roundw
                    case rel =>
                      exact ⟨pos + 1, pre ++ (beB y.size (if x = 115 then 1 else 4) ++ y.data.toList), ns', ts', k, A7, A8', c7, c8 - 1, HPOS.out, rfl, rfl, rfl, Lib.hid (Nat.le_succ_of_le HK.out), Lib.hid ⟨by have h := O7.out; rw [List.append_assoc] at h; rw [if_pos HS.out]; exact h, M7.out, I7.out, B7, HE.out.ri, HRS.out, by have := HE.out.len; have := HY.out; rw [if_pos HS.out]; simp only [List.length_append, beB_len, ba_size]; omega, enc_txt_ok HE.out.tot HDR.out HZ.out rfl HX.out ⟨by have := HY.out; omega, fun _ => by have := HY2.out; omega⟩, HE.out.big, HE.out.ln, Nat.le_trans (Nat.le_succ _) HE.out.lt⟩⟩
                    case measure =>
                      rw [iterPos_of I7.out, hmeas.out]
                      have := HPOS.out
                      omega
                · have HS := Lib.hid hs
                  have hsI : ((x.toNat : Int) == 115) = false := beq_eq_false_iff_ne.2 (fun e => hs (UInt8.toNat_inj.1 (by show x.toNat = 115; omega)))
                  clear hs
                  go_upto_region 15 with (go_at_call 29; refine (HSZC.out).mono ?_; rintro e w5 ⟨rfl, rfl⟩)
                  have OD := Lib.hid (show OB W.drew w.heap.size u6 pre from own_drew O1.out)
                  have MD := Lib.hid (show MB W.drew w.heap.size cn' im' (.slice An ns.length cn) (.slice At ts.length ct) (.slice Ap ps.length cp) from M1.out)
                  have ID := Lib.hid (show W.drew.heap[w3.heap.size]? = some (.stringIter s (pos + 1)) from I1.out)
                  have BD := Lib.hid (show Below w.heap.size w W.drew from B1.out.drew)
                  have q8 : W.drew.cell? a8 = some (.string y) := hc
                  go_region_held3 (fun w' => w'.cell? a8 = some (.string y))
                    (first | exact q8 | go_keep)
                    (first
                      | (refine step_app_s (w0 := w) (base := w.heap.size) (l := pre ++ beB y.size 4) rfl (.tmp 75) (.tmp 78) rfl y rfl rfl O5.out B5.out B5.out.size (by have := HE.out.len; have := HSM.out.1; have := HPOS.out; have := HY.out; simp only [List.length_append, beB_len]; omega) ?_; intro v7 w7 o7 B7 g7; have O7 := Lib.hid o7; have M7 := Lib.hid (mb_keeps M5.out (keepsO_grown O5.out g7)); have I7 := Lib.hid (iter_keeps I5.out (keepsO_grown O5.out g7)); have q8 := cell_below B7 (World.block_lt_of_cell? w _ HC0.out) HC0.out; clear o7 g7)
                      | (go_at_call 28; refine (bigO_c2 (base := w.heap.size) OD.out BD.out.size HPL.out y.size 4 (by have := HY.out; omega) (by omega) _ 4 (by first | rfl | exact IntWalk.u64_in _ (by have := HY.out; omega)) rfl).mono ?_; rintro e w5 ⟨v5, rfl, o5, b5, k5⟩; have O5 := Lib.hid o5; have M5 := Lib.hid (mb_keeps MD.out k5); have I5 := Lib.hid (iter_keeps ID.out k5); have B5 := Lib.hid (BD.out.trans b5); have q8 := cell_below B5.out (World.block_lt_of_cell? w _ HC0.out) HC0.out; clear o5 b5 k5))
                  go_wp2
                  go_roundw
                  case rel =>
                    exact ⟨pos + 1, pre ++ (beB y.size (if x = 115 then 1 else 4) ++ y.data.toList), ns', ts', k, A7, A8', c7, c8 - 1, HPOS.out, rfl, rfl, rfl, Lib.hid (Nat.le_succ_of_le HK.out), Lib.hid ⟨by have h := O7.out; rw [List.append_assoc] at h; rw [if_neg HS.out]; exact h, M7.out, I7.out, B7, HE.out.ri, HRS.out, by have := HE.out.len; have := HY.out; rw [if_neg HS.out]; simp only [List.length_append, beB_len, ba_size]; omega, enc_txt_ok HE.out.tot HDR.out HZ.out rfl HX.out ⟨by have := HY.out; omega, fun h => absurd h HS.out⟩, HE.out.big, HE.out.ln, Nat.le_trans (Nat.le_succ _) HE.out.lt⟩⟩
                  case measure =>
                    rw [iterPos_of I7.out, hmeas.out]
                    have := HPOS.out
                    omega
      · have hnx : ∀ ty, (Instr.next (.pointer (some ⟨w3.heap.size, 0, none⟩)) true ty).run Tryd.prog wr = .ok (.tuple #[.bool false]) wr := fun ty => Lib.run_next_end_at wr _ s pos ty HE.out.it hlt
        have hnil : s.data.toList.drop pos = [] := List.drop_eq_nil_of_le (by rw [ba_size]; omega)
        have HEN := Lib.hid (enc_end HE.out.tot hnil)
        obtain ⟨_, _, _, _, m4⟩ := mb_facts HE.out.mb
        clear hlt hnil
        cases ns' with
        | cons n ns' =>
          have h1 : (ns'.length : Int) + 1 ≤ 140737488351232 := by have := HE.out.ln; simp only [List.length_cons] at this; omega
          have h2 : (ts'.length : Int) ≤ 140737488351232 := by have := HE.out.lt; omega
          have h3 : (0 : Int) ≤ ts'.length := by omega
          have h4 : (0 : Int) ≤ ns'.length := by omega
          have h5 : (0 : Int) < (ns'.length : Int) + 1 + ts'.length := by omega
          go_wp2_with fail
          go_ret2
          exact encM_no (by rw [HEN.out]; simp) HE.out.bel
        | nil =>
          cases ts' with
          | cons t ts' =>
            have h1 : (ts'.length : Int) + 1 ≤ 140737488351232 := by have := HE.out.lt; simp only [List.length_cons] at this; omega
            have h3 : (0 : Int) ≤ ts'.length := by omega
            have h5 : (0 : Int) < (ts'.length : Int) + 1 := by omega
            go_wp2_with fail
            go_ret2
            exact encM_no (by rw [HEN.out]; simp) HE.out.bel
          | nil =>
            by_cases hk0 : k = 0
            · subst hk0
              cases ps with
              | nil =>
                go_wp2_with fail
                go_ret2
                exact encM_yes (by rw [HEN.out]; simp) HE.out.bel HE.out.own
              | cons p ps =>
                have h5 : (0 : Int) < (ps.length : Int) + 1 := by omega
                go_wp2_with fail
                go_ret2
                exact encM_no (by rw [HEN.out]; simp) HE.out.bel
            · have hkb : ((k : Int) == 0) = false := beq_eq_false_iff_ne.2 (by omega)
              have HK0 := Lib.hid hk0
              clear hk0
              go_wp2_with fail
              go_ret2
              exact encM_yes (by rw [HEN.out]; simp [HK0.out]) HE.out.bel HE.out.own
end Go.Proofs.YteigbejidfkhpaaDoor

/- Layer 15's statements: wakes. -/
namespace Go.Proofs.YteigbejidfkhpaaDoor
open Go Go.RowKit
set_option linter.unusedSimpArgs false
set_option linter.unusedVariables false

def wkP : Prp := ⟨⟨#[97]⟩, 2, 1, ByteArray.empty, 0⟩
theorem wkP_v : validB [wkP] = true := by decide +kernel
theorem wkP_b : (⟨([] ++ beB (propsB [wkP]).length 4 ++ propsB [wkP]).toArray⟩ : ByteArray) = ⟨#[0, 0, 0, 4, 1, 97, 116, 1]⟩ := by decide +kernel
theorem wkM_b : Mth.bytes ⟨60, 80, [5, 0], [], []⟩ = some [0, 60, 0, 80, 0, 0, 0, 0, 0, 0, 0, 5, 0] := by decide +kernel
theorem rpr_one (w : World) (p : Prp) : RPr (w.alloc (.cells #[.string p.nm, .int .i64 p.k, .int .i64 p.n, .string p.t, .float .f64 p.r] 48)) (.slice (some ⟨w.heap.size, 0, none⟩) 1 1) [p] :=
  rc_new w 48 1 5 (Prp.cells p) rfl (by omega)
theorem ri_two (w : World) (a b : Int) : RI (w.alloc (.cells #[.int .i64 a, .int .i64 b] 3)) (.slice (some ⟨w.heap.size, 0, none⟩) 2 2) [a, b] :=
  rc_new w 3 2 1 [.int .i64 a, .int .i64 b] rfl (by omega)
theorem rs_nil (w : World) : RS w (.slice none 0 0) [] := own_rc (own_nil w 0 9 1)
theorem rpr_nil (w : World) : RPr w (.slice none 0 0) [] := own_rc (own_nil w 0 48 5)

set_option maxRecDepth 100000 in
set_option maxHeartbeats 2000000 in
theorem wakes_c {w : World} : Calls Tryd.prog 9 #[] w fun e w' => e = .returned (.bool true) ∧ Below w.heap.size w w' := by
  have bW := (Below.refl w.heap.size w).alloc (Nat.le_refl _) (.cells #[.string ⟨#[97]⟩, .int .i64 2, .int .i64 1, .string ByteArray.empty, .float .f64 0] 48)
  have HP := Lib.hid (rpr_one w wkP)
  go_enter Tryd.func9, Tryd.ntmps9
  go_wp2_with fail
  refine (put_c (base := 0) (ob_rb (ob_nil _ 0)) (by simp) HP.out (by decide) (by decide) wkP_v).mono ?_
  rintro e w1 ⟨v1, rfl, o1, b1⟩
  have O1 := Lib.hid o1
  have B1 := bW.trans (b1.mono bW.size)
  clear o1 b1
  go_wp2_with fail
  refine (tEncode_c 60 80 [5, 0] [] [] (ri_two w1 5 0) (rs_nil _) (rpr_nil _) (by simp) (by simp) (by simp) (by simp) (by simp)).mono ?_
  rw [wkM_b]
  rintro e w2 ⟨b2, v2, rfl, o2⟩
  have O2 := Lib.hid o2
  have b3 := ((Below.refl w1.heap.size w1).alloc (Nat.le_refl _) (.cells #[.int .i64 5, .int .i64 0] 3))
  have b4 := b3.trans (b2.mono b3.size)
  have hc1 := rb_string (rb_below (ob_rb O1.out) (b4.mono (by first | exact Nat.le_refl _ | omega)))
  have hc2 := rb_string (ob_rb O2.out)
  rw [wkP_b] at hc1
  have B4 := B1.trans (b4.mono B1.size)
  clear o2 b2 b3 b4 bW
  go_wp2_with fail
  go_ret
  exact ⟨rfl, B4⟩
end Go.Proofs.YteigbejidfkhpaaDoor

/- The reference's sameness of lists of properties. -/
namespace Go.Proofs.YteigbejidfkhpaaDoor
open Go Go.RowKit Go.Sort
set_option linter.unusedSimpArgs false
set_option linter.unusedVariables false

theorem prp_ext {p q : Prp} (h0 : p.nm = q.nm) (h : valSame p.k p.n p.t p.r q.k q.n q.t q.r = true) : p = q := by
  unfold valSame at h
  simp only [decide_eq_true_eq] at h
  obtain ⟨h1, h2, h3, h4⟩ := h
  cases p; cases q
  simp_all

theorem round_less1 {n k : Nat} (h : k < n) : n - (intOf (.int .i64 ((k : Int) + 1))).toNat < n - (intOf (.int .i64 (k : Int))).toNat := by
  show n - ((k : Int) + 1).toNat < n - (k : Int).toNat
  rw [show ((k : Int) + 1).toNat = k + 1 by omega, Int.toNat_natCast]
  omega
theorem valSame_self (p : Prp) : valSame p.k p.n p.t p.r p.k p.n p.t p.r = true := by unfold valSame; simp

set_option maxRecDepth 100000 in
set_option maxHeartbeats 2000000 in
theorem sameAll_c {w : World} {v v' : Value} {ps qs : List Prp} (hp : RPr w v ps) (hq : RPr w v' qs) :
    Calls Tryd.prog 18 #[v, v'] w fun e w' => ∃ b : Bool, e = .returned (.bool b) ∧ (b = true ↔ ps = qs) ∧ Below w.heap.size w w' := by
  have h63 : ps.length ≤ 9223372036854775807 := by obtain ⟨_, _, _, h1, h2, _⟩ := id hp; omega
  obtain ⟨A, c, rfl, hnc, hcell⟩ := props_at hp
  obtain ⟨A', c', rfl, hnc', hcell'⟩ := props_at hq
  have HC := Lib.hid hcell
  have HC' := Lib.hid hcell'
  have H63 := Lib.hid h63
  clear hp hq hcell hcell' h63
  by_cases hl : ps.length = qs.length
  · have HL := Lib.hid hl
    rw [← hl] at hnc' ⊢
    clear hl
    go_enter Tryd.func18, Tryd.ntmps18
    go_wp2_with fail
    go_loopw [13] (fun i wr => ∃ k : Nat, k ≤ ps.length ∧ i = .int .i64 k ∧ Hid (ps.take k = qs.take k) ∧ Below w.heap.size w wr) (fun i _ => ps.length - (intOf i).toNat)
    case atStart => exact ⟨0, Nat.zero_le _, rfl, Lib.hid rfl, Below.refl _ _⟩
    case round =>
      obtain ⟨k, hk, rfl, HT, b2⟩ := hrel
      by_cases hlt : k < ps.length
      · obtain ⟨p, hp⟩ : ∃ p, ps[k]? = some p := ⟨_, List.getElem?_eq_getElem hlt⟩
        obtain ⟨q, hq⟩ : ∃ q, qs[k]? = some q := ⟨_, List.getElem?_eq_getElem (by have := HL.out; omega)⟩
        obtain ⟨a, rfl, q0, q1, q2, q3, q4⟩ := HC.out k p hp
        obtain ⟨a', rfl, r0, r1, r2, r3, r4⟩ := HC'.out k q hq
        have hne : p ≠ q → ¬ ps = qs := fun h e => h (by rw [e] at hp; rw [hp] at hq; injection hq)
        have htk : p = q → ps.take (k + 1) = qs.take (k + 1) := fun h => by rw [List.take_add_one, List.take_add_one, hp, hq, HT.out, h]
        have HNE := Lib.hid hne
        have HTK := Lib.hid htk
        have hwk : wrap64 ((k : Int) + 1) = (k : Int) + 1 := by have := H63.out; unfold wrap64; omega
        have hkI : (k : Int) < ps.length := by omega
        have z0 : ∀ d os, (grow (redrawn wr d) os).cell? (a.add (k * 5)) = some (.string p.nm) := fun d os => cell_regrown (cell_below b2 (World.block_lt_of_cell? w _ q0) q0) d os
        have z1 : ∀ d os, (grow (redrawn wr d) os).cell? ⟨(a.add (k * 5)).block, (a.add (k * 5)).off + 1, none⟩ = some (.int .i64 p.k) := fun d os => cell_regrown (cell_below b2 (World.block_lt_of_cell? w _ q1) q1) d os
        have z2 : ∀ d os, (grow (redrawn wr d) os).cell? ⟨(a.add (k * 5)).block, (a.add (k * 5)).off + 2, none⟩ = some (.int .i64 p.n) := fun d os => cell_regrown (cell_below b2 (World.block_lt_of_cell? w _ q2) q2) d os
        have z3 : ∀ d os, (grow (redrawn wr d) os).cell? ⟨(a.add (k * 5)).block, (a.add (k * 5)).off + 3, none⟩ = some (.string p.t) := fun d os => cell_regrown (cell_below b2 (World.block_lt_of_cell? w _ q3) q3) d os
        have z4 : ∀ d os, (grow (redrawn wr d) os).cell? ⟨(a.add (k * 5)).block, (a.add (k * 5)).off + 4, none⟩ = some (.float .f64 p.r) := fun d os => cell_regrown (cell_below b2 (World.block_lt_of_cell? w _ q4) q4) d os
        have y0 : ∀ d os, (grow (redrawn wr d) os).cell? (a'.add (k * 5)) = some (.string q.nm) := fun d os => cell_regrown (cell_below b2 (World.block_lt_of_cell? w _ r0) r0) d os
        have y1 : ∀ d os, (grow (redrawn wr d) os).cell? ⟨(a'.add (k * 5)).block, (a'.add (k * 5)).off + 1, none⟩ = some (.int .i64 q.k) := fun d os => cell_regrown (cell_below b2 (World.block_lt_of_cell? w _ r1) r1) d os
        have y2 : ∀ d os, (grow (redrawn wr d) os).cell? ⟨(a'.add (k * 5)).block, (a'.add (k * 5)).off + 2, none⟩ = some (.int .i64 q.n) := fun d os => cell_regrown (cell_below b2 (World.block_lt_of_cell? w _ r2) r2) d os
        have y3 : ∀ d os, (grow (redrawn wr d) os).cell? ⟨(a'.add (k * 5)).block, (a'.add (k * 5)).off + 3, none⟩ = some (.string q.t) := fun d os => cell_regrown (cell_below b2 (World.block_lt_of_cell? w _ r3) r3) d os
        have y4 : ∀ d os, (grow (redrawn wr d) os).cell? ⟨(a'.add (k * 5)).block, (a'.add (k * 5)).off + 4, none⟩ = some (.float .f64 q.r) := fun d os => cell_regrown (cell_below b2 (World.block_lt_of_cell? w _ r4) r4) d os
        clear hp hq q0 q1 q2 q3 q4 r0 r1 r2 r3 r4 hne htk
        by_cases hnm : p.nm = q.nm
        · cases hvs : valSame p.k p.n p.t p.r q.k q.n q.t q.r with
          | true =>
            have hpq := prp_ext hnm hvs
            have hnx := HTK.out hpq
            have cS : ∀ d os, Calls Tryd.prog 40 #[.agg #[.int .i64 p.k, .int .i64 p.n, .string p.t, .float .f64 p.r], .agg #[.int .i64 q.k, .int .i64 q.n, .string q.t, .float .f64 q.r]] (grow (redrawn wr d) os) fun e w'' => e = .returned (.bool true) ∧ ∃ p : Regrown, w'' = grow (redrawn wr p.d) p.os := fun d os => Calls.regrown_of (by have := valSame_c (w := grow (redrawn wr d) os) p.k p.n p.t p.r q.k q.n q.t q.r; rw [hvs] at this; exact this)
            rw [← hnm] at y0
            clear hpq hvs hnm
            go_upto_region 6 with fail
            refine wp_region_quiet_below (by kernel_rfl) (by kernel_rfl) ?_
            repeat (go_big_quiet_step (first | exact cS _ _))
            refine wpQuiet_nil ?_
            intro _ hw'
            obtain ⟨⟨dq, osq⟩, hw''⟩ := hw'
            subst hw''
            have bE := b2.trans ((below_regrown wr dq osq).mono b2.size)
            go_wp2
            go_roundw
            case rel => exact ⟨k + 1, by omega, by go_num, Lib.hid hnx, bE⟩
            case measure => first | exact round_less1 hlt | (rw [hwk]; exact round_less1 hlt)
          | false =>
            have hpq : p ≠ q := fun e => by subst e; rw [valSame_self] at hvs; cases hvs
            have HPQ := Lib.hid hpq
            have cS : ∀ d os, Calls Tryd.prog 40 #[.agg #[.int .i64 p.k, .int .i64 p.n, .string p.t, .float .f64 p.r], .agg #[.int .i64 q.k, .int .i64 q.n, .string q.t, .float .f64 q.r]] (grow (redrawn wr d) os) fun e w'' => e = .returned (.bool false) ∧ ∃ p : Regrown, w'' = grow (redrawn wr p.d) p.os := fun d os => Calls.regrown_of (by have := valSame_c (w := grow (redrawn wr d) os) p.k p.n p.t p.r q.k q.n q.t q.r; rw [hvs] at this; exact this)
            rw [← hnm] at y0
            clear hpq hvs hnm hwk
            go_upto_region 6 with fail
            refine wp_region_quiet_below (by kernel_rfl) (by kernel_rfl) ?_
            repeat (go_big_quiet_step (first | exact cS _ _))
            refine wpQuiet_nil ?_
            intro _ hw'
            obtain ⟨⟨dq, osq⟩, hw''⟩ := hw'
            subst hw''
            have bE := b2.trans ((below_regrown wr dq osq).mono b2.size)
            go_wp2
            go_ret
            exact ⟨false, rfl, ⟨(fun h => by cases h), fun h => absurd h (HNE.out HPQ.out)⟩, bE⟩
        · have hpq : p ≠ q := fun e => hnm (by rw [e])
          have HPQ := Lib.hid hpq
          have hnm' := str_ne hnm
          clear hpq hnm hwk
          go_upto_region 6 with fail
          refine wp_region_quiet_below (by kernel_rfl) (by kernel_rfl) ?_
          repeat (go_big_quiet_step (first | fail))
          refine wpQuiet_nil ?_
          intro _ hw'
          obtain ⟨⟨dq, osq⟩, hw''⟩ := hw'
          subst hw''
          have bE := b2.trans ((below_regrown wr dq osq).mono b2.size)
          go_wp2
          go_ret
          exact ⟨false, rfl, ⟨(fun h => by cases h), fun h => absurd h (HNE.out HPQ.out)⟩, bE⟩
      · have hk2 : k = ps.length := by omega
        subst hk2
        have heq : ps = qs := by
          have := HT.out
          rwa [List.take_of_length_le (Nat.le_refl _), List.take_of_length_le (by have := HL.out; omega)] at this
        have HEQ := Lib.hid heq
        clear hlt heq
        go_wp2_with fail
        go_ret
        exact ⟨true, rfl, ⟨fun _ => HEQ.out, fun _ => rfl⟩, b2⟩
  · have hne : ¬ ps = qs := fun e => hl (by rw [e])
    have HNE := Lib.hid hne
    have hlb : ((ps.length : Int) == (qs.length : Int)) = false := beq_eq_false_iff_ne.2 (by omega)
    have hlb2 : (ps.length == qs.length) = false := beq_eq_false_iff_ne.2 hl
    clear hne hl
    go_enter Tryd.func18, Tryd.ntmps18
    go_wp2_with fail
    go_ret
    exact ⟨false, rfl, ⟨(fun h => by cases h), fun h => absurd h HNE.out⟩, Below.refl _ _⟩
end Go.Proofs.YteigbejidfkhpaaDoor

/- Layer 15: the reference's sameness of methods. -/
namespace Go.Proofs.YteigbejidfkhpaaDoor
open Go Go.RowKit Go.Sort
set_option linter.unusedSimpArgs false
set_option linter.unusedVariables false

theorem ri_at {w : World} {v : Value} {ts : List Int} (h : RI w v ts) : ∃ A c, v = .slice A ts.length c ∧ ts.length ≤ c ∧ ∀ j y, ts[j]? = some y → ∃ a, A = some a ∧ w.cell? (a.add j) = some (.int .i64 y) := by
  obtain ⟨A, c, rfl, h1, h2, h3, h4, h5⟩ := h
  exact ⟨A, c, rfl, h1, fun j y hy => h5 j _ (by rw [List.getElem?_map, hy]; rfl)⟩
theorem take_next {X : Type} {xs ys : List X} {k : Nat} {x y : X} (hx : xs[k]? = some x) (hy : ys[k]? = some y) (h : xs.take k = ys.take k) (e : x = y) : xs.take (k + 1) = ys.take (k + 1) := by
  rw [List.take_add_one, List.take_add_one, hx, hy, h, e]
theorem take_all {X : Type} {xs ys : List X} (h : xs.take xs.length = ys.take xs.length) (hl : xs.length = ys.length) : xs = ys := by
  rwa [List.take_of_length_le (Nat.le_refl _), List.take_of_length_le (by omega)] at h
def SamePost (w : World) (m m' : Mth) (e : Ending) (w' : World) : Prop := ∃ b : Bool, e = .returned (.bool b) ∧ (b = true ↔ m = m') ∧ Below w.heap.size w w'
theorem same_no {w w' : World} {m m' : Mth} (h : m ≠ m') (b : Below w.heap.size w w') : SamePost w m m' (.returned (.bool false)) w' := ⟨false, rfl, ⟨(fun h => by cases h), fun e => absurd e h⟩, b⟩
theorem str_beq {a b : ByteArray} (h : a ≠ b) : (a.toList == b.toList) = false := by
  have hc : a.toList ≠ b.toList := fun e => h (by
    rw [ByteArray.toList_eq, ByteArray.toList_eq] at e
    exact ByteArray.ext (Array.toList_inj.1 e))
  exact beq_eq_false_iff_ne.2 hc

set_option maxRecDepth 100000 in
set_option maxHeartbeats 4000000 in
theorem methSame_c {w : World} (m m' : Mth) {vn vt vp vn' vt' vp' : Value} (hn : RI w vn m.ns) (ht : RS w vt m.ts) (hp : RPr w vp m.ps) (hn' : RI w vn' m'.ns) (ht' : RS w vt' m'.ts) (hp' : RPr w vp' m'.ps)
    (hnl : m.ns.length ≤ 140737488351232) (htl : m.ts.length ≤ 140737488351232) :
    Calls Tryd.prog 12 #[.agg #[.int .i64 m.c, .int .i64 m.i, vn, vt, vp], .agg #[.int .i64 m'.c, .int .i64 m'.i, vn', vt', vp']] w (SamePost w m m') := by
  obtain ⟨c, i, ns, ts, ps⟩ := m
  obtain ⟨c', i', ns', ts', ps'⟩ := m'
  dsimp only at hn ht hp hn' ht' hp' hnl htl ⊢
  obtain ⟨An, cn, rfl, hn1, hnc⟩ := ri_at hn
  obtain ⟨At, ct, rfl, ht1, _, htc⟩ := rs_at ht
  obtain ⟨Ap, cp, rfl, hp1⟩ := rc_form hp
  obtain ⟨An', cn', rfl, hn1', hnc'⟩ := ri_at hn'
  obtain ⟨At', ct', rfl, ht1', _, htc'⟩ := rs_at ht'
  obtain ⟨Ap', cp', rfl, hp1'⟩ := rc_form hp'
  have HNC := Lib.hid hnc
  have HTC := Lib.hid htc
  have HNC' := Lib.hid hnc'
  have HTC' := Lib.hid htc'
  have HP := Lib.hid hp
  have HP' := Lib.hid hp'
  have hnlI : (ns.length : Int) ≤ 140737488351232 := by omega
  have htlI : (ts.length : Int) ≤ 140737488351232 := by omega
  have b1 := (Below.refl w.heap.size w).alloc (Nat.le_refl _) (.cells #[.int .i64 c, .int .i64 i, .slice An ns.length cn, .slice At ts.length ct, .slice Ap ps.length cp] 26)
  have bW := Lib.hid (b1.alloc b1.size (.cells #[.int .i64 c', .int .i64 i', .slice An' ns'.length cn', .slice At' ts'.length ct', .slice Ap' ps'.length cp'] 26))
  clear hn ht hp hn' ht' hp' hnc htc hnc' htc' b1 hnl htl
  by_cases h1 : c = c'
  · subst h1
    by_cases h2 : i = i'
    · subst h2
      by_cases h3 : ns.length = ns'.length
      · have HL := Lib.hid h3
        rw [← h3] at hn1' bW ⊢
        clear h3
        by_cases h4 : ts.length = ts'.length
        · have HL4 := Lib.hid h4
          rw [← h4] at ht1' bW ⊢
          clear h4
          have hM1 := mb_new w c i (.slice An ns.length cn) (.slice At ts.length ct) (.slice Ap ps.length cp)
          obtain ⟨w1, hw1⟩ : ∃ w1, w1 = w.alloc (.cells #[.int .i64 c, .int .i64 i, .slice An ns.length cn, .slice At ts.length ct, .slice Ap ps.length cp] 26) := ⟨_, rfl⟩
          have hM2 := mb_new w1 c i (.slice An' ns.length cn') (.slice At' ts.length ct') (.slice Ap' ps'.length cp')
          have hs1 : w1.heap.size = w.heap.size + 1 := by rw [hw1]; exact Array.size_push _
          rw [← hw1] at hM1
          have hM1 := mb_keeps hM1 (keepsO_alloc w1 (.cells #[.int .i64 c, .int .i64 i, .slice An' ns.length cn', .slice At' ts.length ct', .slice Ap' ps'.length cp'] 26))
          rw [hs1] at hM2
          rw [hw1] at hM1 hM2
          have HM1 := Lib.hid hM1
          have HM2 := Lib.hid hM2
          clear hs1 hM1 hM2 hw1
          go_enter Tryd.func12, Tryd.ntmps12
          go_wp2_with fail
          go_loopw [40, 5] (fun x _y wr => ∃ k : Nat, k ≤ ns.length ∧ x = .int .i64 k ∧ Hid (ns.take k = ns'.take k) ∧ Hid (Below ((w.alloc (.cells #[.int .i64 c, .int .i64 i, .slice An ns.length cn, .slice At ts.length ct, .slice Ap ps.length cp] 26)).alloc (.cells #[.int .i64 c, .int .i64 i, .slice An' ns.length cn', .slice At' ts.length ct', .slice Ap' ps'.length cp'] 26)).heap.size ((w.alloc (.cells #[.int .i64 c, .int .i64 i, .slice An ns.length cn, .slice At ts.length ct, .slice Ap ps.length cp] 26)).alloc (.cells #[.int .i64 c, .int .i64 i, .slice An' ns.length cn', .slice At' ts.length ct', .slice Ap' ps'.length cp'] 26)) wr)) (fun x _ _ => ns.length - (intOf x).toNat)
          case atStart => exact ⟨0, Nat.zero_le _, rfl, Lib.hid rfl, Lib.hid (Below.refl _ _)⟩
          case round =>
            obtain ⟨k, hk, rfl, HT, HB⟩ := hrel
            obtain ⟨_, _, m2, m3, m4⟩ := mb_facts (mb_keeps HM1.out (keepsO_below HB.out))
            obtain ⟨_, _, m2', m3', m4'⟩ := mb_facts (mb_keeps HM2.out (keepsO_below HB.out))
            by_cases hlt : k < ns.length
            · obtain ⟨x, hx⟩ : ∃ x, ns[k]? = some x := ⟨_, List.getElem?_eq_getElem hlt⟩
              obtain ⟨y, hy⟩ : ∃ y, ns'[k]? = some y := ⟨_, List.getElem?_eq_getElem (by have := HL.out; omega)⟩
              obtain ⟨a, rfl, q0⟩ := HNC.out k x hx
              obtain ⟨a', rfl, q0'⟩ := HNC'.out k y hy
              have p0 := cell_below (bW.out.trans (HB.out.mono bW.out.size)) (World.block_lt_of_cell? w _ q0) q0
              have p0' := cell_below (bW.out.trans (HB.out.mono bW.out.size)) (World.block_lt_of_cell? w _ q0') q0'
              have HX := Lib.hid hx
              have HY := Lib.hid hy
              have hkI : (k : Int) < ns.length := by omega
              clear q0 q0' hx hy
              by_cases hxy : x = y
              · have hnx := Lib.hid (take_next HX.out HY.out HT.out hxy)
                subst hxy
                go_wp2_with fail
                go_quiet (fail)
                go_wp2_with fail
                go_roundw
                case rel => exact ⟨k + 1, hlt, by go_num, hnx, Lib.hid (HB.out.trans (below_drewN _ _ |>.mono HB.out.size))⟩
                case measure => exact round_less1 hlt
              · have HXY := Lib.hid hxy
                clear hxy
                have hxyb : (x == y) = false := beq_eq_false_iff_ne.2 HXY.out
                go_wp2_with fail
                go_quiet (fail)
                go_wp2_with fail
                go_ret
                exact same_no (fun e => HXY.out (by injection e with _ _ e; have h1 := HX.out; have h2 := HY.out; rw [e, h2] at h1; injection h1 with h1; exact h1.symm)) (bW.out.trans ((HB.out.trans (below_drewN _ _ |>.mono HB.out.size)).mono bW.out.size))
            · have hk2 : k = ns.length := by omega
              subst hk2
              have HNS := Lib.hid (take_all HT.out HL.out)
              clear hlt hk
              go_wp2_with fail
              go_loopw [58, 6] (fun x _y wr => ∃ k : Nat, k ≤ ts.length ∧ x = .int .i64 k ∧ Hid (ts.take k = ts'.take k) ∧ Hid (Below ((w.alloc (.cells #[.int .i64 c, .int .i64 i, .slice An ns.length cn, .slice At ts.length ct, .slice Ap ps.length cp] 26)).alloc (.cells #[.int .i64 c, .int .i64 i, .slice An' ns.length cn', .slice At' ts.length ct', .slice Ap' ps'.length cp'] 26)).heap.size ((w.alloc (.cells #[.int .i64 c, .int .i64 i, .slice An ns.length cn, .slice At ts.length ct, .slice Ap ps.length cp] 26)).alloc (.cells #[.int .i64 c, .int .i64 i, .slice An' ns.length cn', .slice At' ts.length ct', .slice Ap' ps'.length cp'] 26)) wr)) (fun x _ _ => ts.length - (intOf x).toNat)
              case atStart => exact ⟨0, Nat.zero_le _, rfl, Lib.hid rfl, HB⟩
              case round =>
                clear HB m2 m3 m4 m2' m3' m4'
                obtain ⟨k, hk, rfl, HT2, HB⟩ := hrel
                obtain ⟨_, _, m2, m3, m4⟩ := mb_facts (mb_keeps HM1.out (keepsO_below HB.out))
                obtain ⟨_, _, m2', m3', m4'⟩ := mb_facts (mb_keeps HM2.out (keepsO_below HB.out))
                by_cases hlt : k < ts.length
                · obtain ⟨x, hx⟩ : ∃ x, ts[k]? = some x := ⟨_, List.getElem?_eq_getElem hlt⟩
                  obtain ⟨y, hy⟩ : ∃ y, ts'[k]? = some y := ⟨_, List.getElem?_eq_getElem (by have := HL4.out; omega)⟩
                  obtain ⟨a, rfl, q0⟩ := HTC.out k x hx
                  obtain ⟨a', rfl, q0'⟩ := HTC'.out k y hy
                  have p0 := cell_below (bW.out.trans (HB.out.mono bW.out.size)) (World.block_lt_of_cell? w _ q0) q0
                  have p0' := cell_below (bW.out.trans (HB.out.mono bW.out.size)) (World.block_lt_of_cell? w _ q0') q0'
                  have HX := Lib.hid hx
                  have HY := Lib.hid hy
                  have hkI : (k : Int) < ts.length := by omega
                  clear q0 q0' hx hy
                  by_cases hxy : x = y
                  · have hnx := Lib.hid (take_next HX.out HY.out HT2.out hxy)
                    subst hxy
                    go_wp2_with fail
                    go_quiet (fail)
                    go_wp2_with fail
                    go_roundw
                    case rel => exact ⟨k + 1, hlt, by go_num, hnx, Lib.hid (HB.out.trans (below_drewN _ _ |>.mono HB.out.size))⟩
                    case measure => exact round_less1 hlt
                  · have HXY := Lib.hid hxy
                    have hxyb := str_beq hxy
                    clear hxy
                    go_wp2_with fail
                    go_quiet (fail)
                    go_wp2_with fail
                    go_ret
                    exact same_no (fun e => HXY.out (by injection e with _ _ _ e; have h1 := HX.out; have h2 := HY.out; rw [e, h2] at h1; injection h1 with h1; exact h1.symm)) (bW.out.trans ((HB.out.trans (below_drewN _ _ |>.mono HB.out.size)).mono bW.out.size))
                · have hk2 : k = ts.length := by omega
                  subst hk2
                  have HTS := Lib.hid (take_all HT2.out HL4.out)
                  have bX := Lib.hid (bW.out.trans (HB.out.mono bW.out.size))
                  have HSA := Lib.hid (sameAll_c (rc_below HP.out bX.out) (rc_below HP'.out bX.out))
                  clear hlt hk
                  go_wp2_with fail
                  refine (HSA.out).mono ?_
                  rintro e w9 ⟨b, rfl, hb, b9⟩
                  go_wp2_with fail
                  go_ret
                  exact ⟨b, rfl, ⟨fun h => by rw [HNS.out, HTS.out, hb.1 h], fun e => hb.2 (by injection e)⟩, bX.out.trans (b9.mono bX.out.size)⟩
        · have hne : ((ts.length : Int) == (ts'.length : Int)) = false := beq_eq_false_iff_ne.2 (by omega)
          have hne2 : (ts.length == ts'.length) = false := beq_eq_false_iff_ne.2 h4
          have HE := Lib.hid (show (⟨c, i, ns, ts, ps⟩ : Mth) ≠ ⟨c, i, ns', ts', ps'⟩ from fun e => h4 (by injection e with _ _ _ e; rw [e]))
          clear h4
          go_enter Tryd.func12, Tryd.ntmps12
          go_wp2_with fail
          go_ret
          exact same_no HE.out bW.out
      · have hne : ((ns.length : Int) == (ns'.length : Int)) = false := beq_eq_false_iff_ne.2 (by omega)
        have hne2 : (ns.length == ns'.length) = false := beq_eq_false_iff_ne.2 h3
        have HE := Lib.hid (show (⟨c, i, ns, ts, ps⟩ : Mth) ≠ ⟨c, i, ns', ts', ps'⟩ from fun e => h3 (by injection e with _ _ e; rw [e]))
        clear h3
        go_enter Tryd.func12, Tryd.ntmps12
        go_wp2_with fail
        go_ret
        exact same_no HE.out bW.out
    · have hne : (i == i') = false := beq_eq_false_iff_ne.2 h2
      have HE := Lib.hid (show (⟨c, i, ns, ts, ps⟩ : Mth) ≠ ⟨c, i', ns', ts', ps'⟩ from fun e => h2 (by injection e))
      have hne2 : (i != i') = true := by simp [h2]
      go_enter Tryd.func12, Tryd.ntmps12
      go_wp2_with fail
      go_ret
      exact same_no HE.out bW.out
  · have hne : (c == c') = false := beq_eq_false_iff_ne.2 h1
    have HE := Lib.hid (show (⟨c, i, ns, ts, ps⟩ : Mth) ≠ ⟨c', i', ns', ts', ps'⟩ from fun e => h1 (by injection e))
    have hne2 : (c != c') = true := by simp [h1]
    go_enter Tryd.func12, Tryd.ntmps12
    go_wp2_with fail
    go_ret
    exact same_no HE.out bW.out
end Go.Proofs.YteigbejidfkhpaaDoor

/- TableTells: two methods have one payload just if they are the same; it begins with its class and number: the walk. -/
namespace Go.Proofs.YteigbejidfkhpaaDoor
open Go Go.RowKit Go.Sort
open Go.ChangeShapes Go.WideShapes Go.Deep
set_option linter.unusedSimpArgs false
set_option linter.unusedVariables false

theorem rb_four {w : World} {v : Value} {a b c d : UInt8} {u : List UInt8} (h : RB w v (a :: b :: c :: d :: u)) : ∃ ad cp n, v = .slice (some ad) n cp ∧ 4 ≤ n ∧ n ≤ cp ∧ cp ≤ 9223372036854775807 ∧ w.cell? ad = some (.int .u8 a.toNat) ∧ w.cell? ⟨ad.block, ad.off + 1, none⟩ = some (.int .u8 b.toNat) ∧ w.cell? ⟨ad.block, ad.off + 2, none⟩ = some (.int .u8 c.toNat) ∧ w.cell? ⟨ad.block, ad.off + 3, none⟩ = some (.int .u8 d.toNat) := by
  obtain ⟨A, cp, rfl, h1, h2, h3, h4, h5⟩ := h
  obtain ⟨ad, rfl, c0⟩ := h5 0 _ rfl
  obtain ⟨a1, e1, c1⟩ := h5 1 _ rfl
  obtain ⟨a2, e2, c2⟩ := h5 2 _ rfl
  obtain ⟨a3, e3, c3⟩ := h5 3 _ rfl
  injection e1 with e1; injection e2 with e2; injection e3 with e3
  subst e1 e2 e3
  refine ⟨ad, cp, _, rfl, by simp, by simpa using h1, h2, by rwa [show ad.add 0 = ad by unfold Addr.add; simp] at c0, by simpa [Addr.add] using c1, by simpa [Addr.add] using c2, by simpa [Addr.add] using c3⟩

theorem below_dd {B : Nat} {a w : World} (h : Below B a w) (n m : Nat) : Below B a ((w.drewN n).drewN m) := h.trans ⟨rfl, rfl, rfl, Nat.le_refl _, fun _ _ => rfl⟩
theorem below_gr {B : Nat} {a w : World} (h : Go.RowKit.Below B a w) (hB : B ≤ w.heap.size) (d : Nat) (os : Array Obj) : Go.RowKit.Below B a (grow (redrawn w d) os) := h.trans ((below_regrown w d os).mono hB)
/-- What a walk knows of a method that came in. -/
structure MthIn (w : World) (m : Mth) (vn vt vp : Value) : Prop where
  rn : RI w vn m.ns
  rt : RS w vt m.ts
  rp : RPr w vp m.ps
  fit : m.fit
  nl : m.ns.length ≤ 140737488351232
  tl : m.ts.length ≤ 140737488351232
  tz : ∀ t ∈ m.ts, t.size ≤ 140737488351232
  pz : ∀ p ∈ m.ps, p.nm.size ≤ 140737488351232 ∧ p.t.size ≤ 140737488351232

theorem mthIn_below {w w1 : World} {m : Mth} {vn vt vp : Value} (h : MthIn w m vn vt vp) (b : Below w.heap.size w w1) : MthIn w1 m vn vt vp :=
  ⟨rc_below h.rn b, rc_below h.rt b, rc_below h.rp b, h.fit, h.nl, h.tl, h.tz, h.pz⟩
theorem heavyIn {w : World} {m : Mth} {vn vt vp : Value} (h : MthIn w m vn vt vp) : Calls Tryd.prog 10 #[.agg #[.int .i64 m.c, .int .i64 m.i, vn, vt, vp]] w (HvPost w m.ns m.ts m.ps) :=
  heavy_c h.rn h.rt h.rp h.nl h.tz h.pz
theorem encIn {w : World} {m : Mth} {vn vt vp : Value} (h : MthIn w m vn vt vp) : Calls Tryd.prog 11 #[.agg #[.int .i64 m.c, .int .i64 m.i, vn, vt, vp]] w (EncM w m.bytes) :=
  tEncode_c m.c m.i m.ns m.ts m.ps h.rn h.rt h.rp h.fit.1 h.nl h.tl (fun p hp => (h.pz p hp).1) (fun p hp => (h.fit.2 p hp).1)
theorem sameIn {w : World} {m m' : Mth} {vn vt vp vn' vt' vp' : Value} (h : MthIn w m vn vt vp) (h' : MthIn w m' vn' vt' vp') : Calls Tryd.prog 12 #[.agg #[.int .i64 m.c, .int .i64 m.i, vn, vt, vp], .agg #[.int .i64 m'.c, .int .i64 m'.i, vn', vt', vp']] w (SamePost w m m') :=
  methSame_c m m' h.rn h.rt h.rp h'.rn h'.rt h'.rp h.nl h.tl

set_option maxRecDepth 100000 in
set_option maxHeartbeats 4000000 in
theorem tableTells_c {w : World} (m m' : Mth) {vn vt vp vn' vt' vp' : Value} (hm : MthIn w m vn vt vp) (hm' : MthIn w m' vn' vt' vp') :
    Calls Tryd.prog 3 #[.agg #[.int .i64 m.c, .int .i64 m.i, vn, vt, vp], .agg #[.int .i64 m'.c, .int .i64 m'.i, vn', vt', vp']] w fun e w' => e = .returned (.bool true) ∧ Below w.heap.size w w' := by
  have b1 := (Below.refl w.heap.size w).alloc (Nat.le_refl _) (.cells #[.int .i64 m.c, .int .i64 m.i, vn, vt, vp] 26)
  have bW := Lib.hid (b1.alloc b1.size (.cells #[.int .i64 m'.c, .int .i64 m'.i, vn', vt', vp'] 26))
  have hM1 := mb_new w m.c m.i vn vt vp
  obtain ⟨w1, hw1⟩ : ∃ w1, w1 = w.alloc (.cells #[.int .i64 m.c, .int .i64 m.i, vn, vt, vp] 26) := ⟨_, rfl⟩
  have hM2 := mb_new w1 m'.c m'.i vn' vt' vp'
  have hs1 : w1.heap.size = w.heap.size + 1 := by rw [hw1]; exact Array.size_push _
  rw [← hw1] at hM1
  have hM1 := mb_keeps hM1 (keepsO_alloc w1 (.cells #[.int .i64 m'.c, .int .i64 m'.i, vn', vt', vp'] 26))
  rw [hs1] at hM2
  rw [hw1] at hM1 hM2
  have HM1 := Lib.hid hM1
  have HM2 := Lib.hid hM2
  have HI := Lib.hid hm
  have HI' := Lib.hid hm'
  clear hs1 hM1 hM2 hw1 b1 hm hm'
  obtain ⟨c, i, ns, ts, ps⟩ := m
  obtain ⟨c', i', ns', ts', ps'⟩ := m'
  dsimp only at HM1 HM2 bW ⊢
  go_enter Tryd.func3, Tryd.ntmps3
  go_wp2_with fail
  refine wakes_c.mono ?_
  rintro e w2 ⟨rfl, b2⟩
  have B2 := Lib.hid (bW.out.trans (b2.mono bW.out.size))
  have M1 := Lib.hid (mb_keeps HM1.out (keepsO_below b2))
  have M2 := Lib.hid (mb_keeps HM2.out (keepsO_below b2))
  have I2 := Lib.hid (mthIn_below HI.out B2.out)
  have I2' := Lib.hid (mthIn_below HI'.out B2.out)
  obtain ⟨q0, q1, q2, q3, q4⟩ := mb_facts M1.out
  obtain ⟨p0, p1, p2, p3, p4⟩ := mb_facts M2.out
  clear b2 HM1 HM2
  go_wp2_with fail
  refine (heavyIn I2.out).mono ?_
  rintro e w3 ⟨h3, rfl, hh3, b3⟩
  cases h3 with
  | true =>
    go_wp2_with fail
    go_ret
    exact ⟨rfl, B2.out.trans (b3.mono B2.out.size)⟩
  | false =>
    have B3 := Lib.hid (B2.out.trans (b3.mono B2.out.size))
    have M13 := Lib.hid (mb_keeps M1.out (keepsO_below b3))
    have M23 := Lib.hid (mb_keeps M2.out (keepsO_below b3))
    have I3 := Lib.hid (mthIn_below I2.out b3)
    have I3' := Lib.hid (mthIn_below I2'.out b3)
    clear b3 hh3 q0 q1 q2 q3 q4 p0 p1 p2 p3 p4
    obtain ⟨q0, q1, q2, q3, q4⟩ := mb_facts M13.out
    obtain ⟨p0, p1, p2, p3, p4⟩ := mb_facts M23.out
    go_wp2_with fail
    refine (heavyIn I3'.out).mono ?_
    rintro e w4 ⟨h4, rfl, hh4, b4⟩
    cases h4 with
    | true =>
      go_wp2_with fail
      go_ret
      exact ⟨rfl, B3.out.trans (b4.mono B3.out.size)⟩
    | false =>
      have B4 := Lib.hid (B3.out.trans (b4.mono B3.out.size))
      have M14 := Lib.hid (mb_keeps M13.out (keepsO_below b4))
      have M24 := Lib.hid (mb_keeps M23.out (keepsO_below b4))
      have I4 := Lib.hid (mthIn_below I3.out b4)
      have I4' := Lib.hid (mthIn_below I3'.out b4)
      clear b4 hh4 q0 q1 q2 q3 q4 p0 p1 p2 p3 p4 B2 B3 M1 M2 M13 M23 I2 I2' I3 I3'
      obtain ⟨q0, q1, q2, q3, q4⟩ := mb_facts M14.out
      obtain ⟨p0, p1, p2, p3, p4⟩ := mb_facts M24.out
      go_wp2_with fail
      refine (encIn I4.out).mono ?_
      intro e w5 he5
      obtain ⟨b5, he5⟩ := he5
      have B5 := Lib.hid (B4.out.trans (b5.mono B4.out.size))
      have M15 := Lib.hid (mb_keeps M14.out (keepsO_below b5))
      have M25 := Lib.hid (mb_keeps M24.out (keepsO_below b5))
      have I5 := Lib.hid (mthIn_below I4.out b5)
      have I5' := Lib.hid (mthIn_below I4'.out b5)
      clear b5 q0 q1 q2 q3 q4 p0 p1 p2 p3 p4 B4 M14 M24 I4 I4'
      obtain ⟨q0, q1, q2, q3, q4⟩ := mb_facts M15.out
      obtain ⟨p0, p1, p2, p3, p4⟩ := mb_facts M25.out
      cases hb1 : Mth.bytes ⟨c, i, ns, ts, ps⟩ with
      | none =>
        rw [hb1] at he5
        dsimp only at he5
        subst he5
        clear hb1
        go_wp2_with fail
        refine (encIn I5'.out).mono ?_
        intro e w6 he6
        obtain ⟨b6, he6⟩ := he6
        have B6 := Lib.hid (B5.out.trans (b6.mono B5.out.size))
        cases hb2 : Mth.bytes ⟨c', i', ns', ts', ps'⟩ with
        | none =>
          rw [hb2] at he6
          dsimp only at he6
          subst he6
          clear hb2 b6
          go_wp2_with fail
          go_quiet (fail)
          go_wp2_with fail
          go_quiet (fail)
          go_wp2_with fail
          go_ret
          exact ⟨rfl, below_dd B6.out _ _⟩
        | some y =>
          rw [hb2] at he6
          dsimp only at he6
          obtain ⟨v6, rfl, _⟩ := he6
          clear hb2 b6
          go_wp2_with fail
          go_quiet (fail)
          go_wp2_with fail
          go_quiet (fail)
          go_wp2_with fail
          go_ret
          exact ⟨rfl, below_dd B6.out _ _⟩
      | some x =>
        rw [hb1] at he5
        dsimp only at he5
        obtain ⟨v5, rfl, o5⟩ := he5
        obtain ⟨xa, xb, xc, xd, xu, rfl, hx1, hx2⟩ := bytes_head hb1
        have HX1 := Lib.hid hx1
        have HX2 := Lib.hid hx2
        have HB1 := Lib.hid hb1
        have O5 := Lib.hid o5
        clear hb1 hx1 hx2 o5
        go_wp2_with fail
        refine (encIn I5'.out).mono ?_
        intro e w6 he6
        obtain ⟨b6, he6⟩ := he6
        have B6 := Lib.hid (B5.out.trans (b6.mono B5.out.size))
        have M16 := Lib.hid (mb_keeps M15.out (keepsO_below b6))
        have M26 := Lib.hid (mb_keeps M25.out (keepsO_below b6))
        have I6 := Lib.hid (mthIn_below I5.out b6)
        have I6' := Lib.hid (mthIn_below I5'.out b6)
        have R6 := Lib.hid (rb_below (ob_rb O5.out) b6)
        clear b6 q0 q1 q2 q3 q4 p0 p1 p2 p3 p4 B5 M15 M25 I5 I5' O5
        obtain ⟨q0, q1, q2, q3, q4⟩ := mb_facts M16.out
        obtain ⟨p0, p1, p2, p3, p4⟩ := mb_facts M26.out
        obtain ⟨ad, cp, n, rfl, hn4, hcp, hcp2, r0, r1, r2, r3⟩ := rb_four R6.out
        have hxd : decide ((n : Int) < 4) = false := decide_eq_false (by omega)
        have n0 : (0 : Int) < n := by omega
        have n1 : (1 : Int) < n := by omega
        have n2 : (2 : Int) < n := by omega
        have n3 : (3 : Int) < n := by omega
        have n0' : 0 < n := by omega
        have hxl3 : (n : Int) ≤ 9223372036854775807 := by omega
        have t0 := UInt8.toNat_lt xa
        have t1 := UInt8.toNat_lt xb
        have t2 := UInt8.toNat_lt xc
        have t3 := UInt8.toNat_lt xd
        have f0 : IntKind.i64.wrap (xa.toNat : Int) = (xa.toNat : Int) := IntWalk.i64_in _ (by omega)
        have f1 : IntKind.i64.wrap (xb.toNat : Int) = (xb.toNat : Int) := IntWalk.i64_in _ (by omega)
        have f2 : IntKind.i64.wrap (xc.toNat : Int) = (xc.toNat : Int) := IntWalk.i64_in _ (by omega)
        have f3 : IntKind.i64.wrap (xd.toNat : Int) = (xd.toNat : Int) := IntWalk.i64_in _ (by omega)
        have e0 : IntKind.i64.wrap ((xa.toNat : Int) * 256) = (xa.toNat : Int) * 256 := IntWalk.i64_in _ (by omega)
        have e1 : IntKind.i64.wrap ((xa.toNat : Int) * 256 + (xb.toNat : Int)) = c := by rw [← HX1.out]; exact IntWalk.i64_in _ (by omega)
        have e2 : IntKind.i64.wrap ((xc.toNat : Int) * 256) = (xc.toNat : Int) * 256 := IntWalk.i64_in _ (by omega)
        have e3 : IntKind.i64.wrap ((xc.toNat : Int) * 256 + (xd.toNat : Int)) = i := by rw [← HX2.out]; exact IntWalk.i64_in _ (by omega)
        cases hb2 : Mth.bytes ⟨c', i', ns', ts', ps'⟩ with
        | none =>
          rw [hb2] at he6
          dsimp only at he6
          subst he6
          clear hb2
          go_wp2_with fail
          go_quiet (fail)
          go_wp2_with fail
          go_quiet (fail)
          go_wp2_with fail
          go_ret
          exact ⟨rfl, below_dd B6.out _ _⟩
        | some y =>
          rw [hb2] at he6
          dsimp only at he6
          obtain ⟨v6, rfl, o6⟩ := he6
          have O6 := Lib.hid o6
          have HB2 := Lib.hid hb2
          clear hb2 o6
          go_wp2_with fail
          go_quiet (fail)
          go_wp2_with fail
          have R1 := Lib.hid R6.out
          have R2 := Lib.hid (ob_rb O6.out)
          obtain ⟨W, hW⟩ : ∃ W, W = w6.drewN nq := ⟨_, rfl⟩
          have bWW : Go.RowKit.Below w6.heap.size w6 W := by rw [hW]; exact below_drewN _ _
          have hWs : W.heap.size = w6.heap.size := by rw [hW]; rfl
          have hcx : ∀ (d : Nat) (os : Array Obj), (convert 29 9 (.slice (some ad) n cp)).run Tryd.prog (grow (redrawn W d) os) = .ok (.string ⟨(xa :: xb :: xc :: xd :: xu).toArray⟩) (grow (redrawn W d) os) := fun d os => rb_string (rb_below (rb_below R1.out bWW) (below_regrown W d os))
          have hcy : ∀ (d : Nat) (os : Array Obj), (convert 29 9 v6).run Tryd.prog (grow (redrawn W d) os) = .ok (.string ⟨y.toArray⟩) (grow (redrawn W d) os) := fun d os => rb_string (rb_below (rb_below R2.out bWW) (below_regrown W d os))
          have z0 : ∀ d os, (grow (redrawn W d) os).cell? ⟨w.heap.size, 0, none⟩ = some (.int .i64 c) := fun d os => cell_regrown (by rw [hW]; exact q0) d os
          have z1 : ∀ d os, (grow (redrawn W d) os).cell? ⟨w.heap.size, 1, none⟩ = some (.int .i64 i) := fun d os => cell_regrown (by rw [hW]; exact q1) d os
          have z2 : ∀ d os, (grow (redrawn W d) os).cell? ⟨w.heap.size, 2, none⟩ = some vn := fun d os => cell_regrown (by rw [hW]; exact q2) d os
          have z3 : ∀ d os, (grow (redrawn W d) os).cell? ⟨w.heap.size, 3, none⟩ = some vt := fun d os => cell_regrown (by rw [hW]; exact q3) d os
          have z4 : ∀ d os, (grow (redrawn W d) os).cell? ⟨w.heap.size, 4, none⟩ = some vp := fun d os => cell_regrown (by rw [hW]; exact q4) d os
          have y0 : ∀ d os, (grow (redrawn W d) os).cell? ⟨w.heap.size + 1, 0, none⟩ = some (.int .i64 c') := fun d os => cell_regrown (by rw [hW]; exact p0) d os
          have y1 : ∀ d os, (grow (redrawn W d) os).cell? ⟨w.heap.size + 1, 1, none⟩ = some (.int .i64 i') := fun d os => cell_regrown (by rw [hW]; exact p1) d os
          have y2 : ∀ d os, (grow (redrawn W d) os).cell? ⟨w.heap.size + 1, 2, none⟩ = some vn' := fun d os => cell_regrown (by rw [hW]; exact p2) d os
          have y3 : ∀ d os, (grow (redrawn W d) os).cell? ⟨w.heap.size + 1, 3, none⟩ = some vt' := fun d os => cell_regrown (by rw [hW]; exact p3) d os
          have y4 : ∀ d os, (grow (redrawn W d) os).cell? ⟨w.heap.size + 1, 4, none⟩ = some vp' := fun d os => cell_regrown (by rw [hW]; exact p4) d os
          have J1 := Lib.hid (mthIn_below I6.out bWW)
          have J2 := Lib.hid (mthIn_below I6'.out bWW)
          have BWW := Lib.hid (B6.out.trans (bWW.mono B6.out.size))
          clear q0 q1 q2 q3 q4 p0 p1 p2 p3 p4 r0 r1 r2 r3 e0 e1 e2 e3 f0 f1 f2 f3 hxd bWW
          by_cases heq : (⟨c, i, ns, ts, ps⟩ : Mth) = ⟨c', i', ns', ts', ps'⟩
          · have hcS : ∀ (d : Nat) (os : Array Obj), Calls Tryd.prog 12 #[.agg #[.int .i64 c, .int .i64 i, vn, vt, vp], .agg #[.int .i64 c', .int .i64 i', vn', vt', vp']] (grow (redrawn W d) os) fun e w'' => e = .returned (.bool true) ∧ ∃ p : Regrown, w'' = grow (redrawn W p.d) p.os := fun d os => Calls.regrown_of ((sameIn (mthIn_below J1.out (below_regrown W d os)) (mthIn_below J2.out (below_regrown W d os))).mono fun e w' ⟨b, he, hb, hbel⟩ => ⟨by rw [he, hb.2 heq], hbel⟩)
            have hyx : y = xa :: xb :: xc :: xd :: xu := by have h1 := HB1.out; have h2 := HB2.out; rw [heq, h2] at h1; injection h1
            subst hyx
            rw [← hW]
            clear heq hW
            refine wp_region_quiet_below (by kernel_rfl) (by kernel_rfl) ?_
            repeat (go_big_quiet_step (first | exact hcS _ _))
            refine wpQuiet_nil ?_
            intro _ hw'
            obtain ⟨⟨dq, osq⟩, hw''⟩ := hw'
            subst hw''
            go_wp2
            go_ret
            exact ⟨rfl, below_gr BWW.out BWW.out.size _ _⟩
          · have hcS : ∀ (d : Nat) (os : Array Obj), Calls Tryd.prog 12 #[.agg #[.int .i64 c, .int .i64 i, vn, vt, vp], .agg #[.int .i64 c', .int .i64 i', vn', vt', vp']] (grow (redrawn W d) os) fun e w'' => e = .returned (.bool false) ∧ ∃ p : Regrown, w'' = grow (redrawn W p.d) p.os := fun d os => Calls.regrown_of ((sameIn (mthIn_below J1.out (below_regrown W d os)) (mthIn_below J2.out (below_regrown W d os))).mono fun e w' ⟨b, he, hb, hbel⟩ => ⟨by rw [he, show b = false by cases b; rfl; exact absurd (hb.1 rfl) heq], hbel⟩)
            have hyx : ¬ (xa :: xb :: xc :: xd :: xu) = y := fun e => heq (bytes_inj I6.out.fit I6'.out.fit HB1.out (by rw [e]; exact HB2.out))
            have hst : ((xa :: xb :: xc :: xd :: xu) == y) = false := beq_eq_false_iff_ne.2 hyx
            rw [← hW]
            clear heq hW hyx
            refine wp_region_quiet_below (by kernel_rfl) (by kernel_rfl) ?_
            repeat (go_big_quiet_step (first | exact hcS _ _))
            refine wpQuiet_nil ?_
            intro _ hw'
            obtain ⟨⟨dq, osq⟩, hw''⟩ := hw'
            subst hw''
            go_wp2
            go_ret
            exact ⟨rfl, below_gr BWW.out BWW.out.size _ _⟩
end Go.Proofs.YteigbejidfkhpaaDoor

/- Data that came in, opened whole: structs, slices, slices in structs in slices. -/
namespace Go.Proofs.YteigbejidfkhpaaDoor
open Go Go.RowKit
open Go.ChangeShapes Go.WideShapes Go.Deep
set_option linter.unusedSimpArgs false
set_option linter.unusedVariables false

section
variable {H : Type} (enc : TypeId × Value → H) (P : Program) (W : World)
/-- Data of type t: s cells, which are f of some x that is Good. -/
def Opn (t : TypeId) (s : Nat) {X : Type} (f : X → List Value) (Good : X → Prop) : Prop :=
  P.cellsOf t = s ∧ (∀ x, (f x).length = s) ∧ ∀ (n : Nat) (cs : List Value) (y : DataW H × List MemPlace), DataW.trod enc P W 0 (fun _ => true) true n t cs = some y → cs.length = s → (DataW.weights P t y.1).all (· ≤ reachBytes) = true → ∃ x, cs = f x ∧ Good x
/-- Fields, from an offset on. -/
def OpnF (fs : List Field) (off sz : Nat) {X : Type} (f : X → List Value) (Good : X → Prop) : Prop :=
  (∀ x, (f x).length = sz) ∧ ∀ (n : Nat) (cs : List Value) (ys : List (DataW H × List MemPlace)), ys.length = fs.length → (∀ (i : Nat) (fl : Field), fs[i]? = some fl → DataW.trod enc P W 0 (fun _ => true) true n fl.type ((cs.drop fl.offset).take (P.cellsOf fl.type)) = ys[i]?) → cs.length = off + sz →
    (DataW.weightsEach P (fs.map (·.type)) (ys.map (·.1))).all (· ≤ reachBytes) = true → ∃ x, cs.drop off = f x ∧ Good x
end

section
variable {H : Type} {enc : TypeId × Value → H} {P : Program} {W : World}
theorem Opn.map {t : TypeId} {s : Nat} {X Y : Type} {f : X → List Value} {Good : X → Prop} (h : Opn enc P W t s f Good) (g : X → Y) (f' : Y → List Value) (Good' : Y → Prop) (hl : ∀ y, (f' y).length = s) (hf : ∀ x, f x = f' (g x)) (hg : ∀ x, Good x → Good' (g x)) : Opn enc P W t s f' Good' :=
  ⟨h.1, hl, fun n cs y hy hc hw => by
    obtain ⟨x, h1, h2⟩ := h.2.2 n cs y hy hc hw
    exact ⟨g x, by rw [h1, hf], hg x h2⟩⟩
theorem opnF_nil (off : Nat) : OpnF enc P W [] off 0 (fun _ : Unit => []) (fun _ => True) :=
  ⟨fun _ => rfl, fun n cs ys _ _ hc _ => ⟨(), List.drop_eq_nil_of_le (by omega), trivial⟩⟩
theorem opnF_cons {fl : Field} {fs : List Field} {off s sz : Nat} {X Y : Type} {f : X → List Value} {g : Y → List Value} {Good : X → Prop} {Good' : Y → Prop} (h : Opn enc P W fl.type s f Good) (ho : fl.offset = off) (hr : OpnF enc P W fs (off + s) sz g Good') :
    OpnF enc P W (fl :: fs) off (s + sz) (fun p : X × Y => f p.1 ++ g p.2) (fun p => Good p.1 ∧ Good' p.2) := by
  refine ⟨fun p => by rw [List.length_append, h.2.1, hr.1], fun n cs ys hl hf hc hw => ?_⟩
  match ys, hl with
  | y :: ys, hl =>
    simp only [List.map_cons, DataW.weightsEach, List.all_append, Bool.and_eq_true] at hw
    have h0 := hf 0 fl rfl
    simp only [List.getElem?_cons_zero] at h0
    rw [h.1, ho] at h0
    obtain ⟨x, hx, gx⟩ := h.2.2 n _ y h0 (by rw [List.length_take, List.length_drop]; omega) hw.1
    obtain ⟨z, hz, gz⟩ := hr.2 n cs ys (by simpa using hl) (fun i fl' hi => by have := hf (i + 1) fl' (by simpa using hi); simpa using this) (by omega) hw.2
    exact ⟨(x, z), by show _ = f x ++ g z; rw [← hx, ← hz, ← List.drop_drop, List.take_append_drop], gx, gz⟩
theorem opn_struct {t : TypeId} {fs : Array Field} {sz : Nat} {X : Type} {f : X → List Value} {Good : X → Prop} (hs : P.underlying t = some (.struct fs)) (hc : P.cellsOf t = sz) (h : OpnF enc P W fs.toList 0 sz f Good) : Opn enc P W t sz f Good := by
  refine ⟨hc, h.1, fun n cs y hy hl hw => ?_⟩
  obtain ⟨xs, n', _, rfl, _, hlen, hf⟩ := DataW.trod_struct hs hy
  have hw' : (DataW.weightsEach P (fs.toList.map (·.type)) (xs.map (·.1))).all (· ≤ reachBytes) = true := by
    simpa only [DataW.weights, hs] using hw
  obtain ⟨x, hx, gx⟩ := h.2 n' cs xs (by rw [Array.length_toList]; exact hlen) (fun i fl hi => hf i fl (by simpa using hi)) (by omega) hw'
  exact ⟨x, by simpa using hx, gx⟩
theorem opn_int {t : TypeId} {k : IntKind} (hu : P.underlying t = some (.int k)) (hc : P.cellsOf t = 1) : Opn enc P W t 1 (fun n : Int => [.int k n]) (fun n => (Lit.int k n).wf = true) :=
  ⟨hc, fun _ => rfl, fun n cs y hy _ _ => by
    obtain ⟨z, h1, _, h2⟩ := DataW.trod_int hu hy
    exact ⟨z, h1, h2⟩⟩
theorem opn_bool {t : TypeId} (hu : P.underlying t = some .bool) (hc : P.cellsOf t = 1) : Opn enc P W t 1 (fun b : Bool => [.bool b]) (fun _ => True) :=
  ⟨hc, fun _ => rfl, fun n cs y hy _ _ => by
    obtain ⟨z, h1, _⟩ := DataW.trod_bool hu hy
    exact ⟨z, h1, trivial⟩⟩
theorem opn_string {t : TypeId} (hu : P.underlying t = some .string) (hc : P.cellsOf t = 1) : Opn enc P W t 1 (fun s : ByteArray => [.string s]) (fun s => s.size ≤ 140737488351232) :=
  ⟨hc, fun _ => rfl, fun n cs y hy _ hw => by
    obtain ⟨z, h1, rfl, _⟩ := DataW.trod_string hu hy
    refine ⟨z, h1, ?_⟩
    simp only [DataW.weights, List.all_cons, List.all_nil, Bool.and_true, decide_eq_true_eq, Array.length_toList] at hw
    exact hw⟩
theorem opn_float {t : TypeId} (hu : P.underlying t = some (.float .f64)) (hc : P.cellsOf t = 1) : Opn enc P W t 1 (fun r : Nat => [.float .f64 r]) (fun r => r < 18446744073709551616) :=
  ⟨hc, fun _ => rfl, fun n cs y hy _ _ => by
    cases n with
    | zero => simp [DataW.trod] at hy
    | succ n =>
      unfold DataW.trod at hy
      rw [hu] at hy
      split at hy
      all_goals first
        | (simp_all [Lit.wf]; done)
        | (rename_i k' b heq _
           injection heq with heq
           injection heq with heq
           subst heq
           split at hy
           · rename_i hc2
             obtain ⟨rfl, hb⟩ := hc2
             exact ⟨b, rfl, by simpa [Lit.wf] using hb⟩
           · cases hy)⟩
theorem weightsAll_mem {e : TypeId} : ∀ {l : List (DataW H)} {d : DataW H}, d ∈ l → ∀ n ∈ d.weights P e, n ∈ DataW.weightsAll P e l
  | d' :: r, d, hd, n, hn => by
    simp only [DataW.weightsAll, List.mem_append]
    rcases List.mem_cons.1 hd with rfl | h
    · exact Or.inl hn
    · exact Or.inr (weightsAll_mem h n hn)
/-- v reads as the row xs of good elements. -/
def RowOf (P : Program) (W : World) (e : TypeId) (s : Nat) {X : Type} (f : X → List Value) (Good : X → Prop) (v : Value) : Prop :=
  ∃ xs : List X, RC W v xs.length s (xs.flatMap f) ∧ (∀ x ∈ xs, Good x) ∧ xs.length * P.bytesOf e ≤ 140737488351232
theorem opn_slice {t e : TypeId} {s : Nat} {X : Type} {f : X → List Value} {Good : X → Prop} (hs : 0 < s) (hu : P.underlying t = some (.slice e)) (hct : P.cellsOf t = 1) (he : Opn enc P W e s f Good) :
    Opn enc P W t 1 (fun v : Value => [v]) (RowOf P W e s f Good) := by
  obtain ⟨hc, hf, hel⟩ := he
  refine ⟨hct, fun _ => rfl, fun fuel cs y hy hl hw => ?_⟩
  rcases open_slice hu hy with ⟨hcs, _⟩ | ⟨a, len, cap, m, n, D, Pl, hcs, _, hlen', hm, hmm, hx, hi⟩
  · refine ⟨_, hcs, [], ⟨none, 0, rfl, Nat.le_refl _, by omega, by simp, fun _ => rfl, fun j u hu => ?_⟩, fun n hn => absurd hn (by simp), by simp⟩
    simp at hu
  · simp only [if_true] at hmm
    subst hmm
    subst hx
    refine ⟨_, hcs, ?_⟩
    simp only [DataW.weights, hu, List.all_cons, List.all_append, Bool.and_eq_true, decide_eq_true_eq] at hw
    obtain ⟨hw0, hw1, _⟩ := hw
    simp only [List.length_map, List.length_range] at hw0
    have key : ∀ i : Fin len, ∃ y, W.cells? 0 (a.add (i.1 * s)) s = some (f y) ∧ Good y := by
      intro i
      obtain ⟨cs', h1, h2⟩ := hi i.1 (by omega)
      rw [hc] at h1
      obtain ⟨y, rfl, hg⟩ := hel n cs' _ h2 (World.cells?_some h1).2.1 (List.all_eq_true.2 fun k hk => List.all_eq_true.1 hw1 k (weightsAll_mem (List.mem_map.2 ⟨i.1, List.mem_range.2 i.2, rfl⟩) k hk))
      exact ⟨y, h1, hg⟩
    have hlen : (List.ofFn fun i : Fin len => Classical.choose (key i)).length = len := by simp
    refine ⟨List.ofFn fun i : Fin len => Classical.choose (key i), ?_, ?_, ?_⟩
    · rw [hlen]
      refine ⟨some a, _, rfl, hlen', by simpa [maxLen] using hm, by rw [flat_len f s hf, hlen], (fun h => by cases h), fun q u hq => ⟨a, rfl, ?_⟩⟩
      rw [flat_get f s hs hf] at hq
      obtain ⟨y, hy, hq⟩ := Option.bind_eq_some_iff.1 hq
      have hql : q / s < len := by
        have := (List.getElem?_eq_some_iff.1 hy).1
        rwa [hlen] at this
      have hye : y = Classical.choose (key ⟨q / s, hql⟩) := by
        rw [List.getElem?_ofFn] at hy
        simp only [hql, dite_true, Option.some.injEq] at hy
        exact hy.symm
      have hk := (Classical.choose_spec (key ⟨q / s, hql⟩)).1
      rw [← hye] at hk
      have := (World.cells?_some hk).2.2 (q % s) (Nat.mod_lt _ hs)
      rw [add_add] at this
      rw [Nat.div_add_mod' q s] at this
      rw [this]
      exact hq
    · intro y hy
      rw [List.mem_ofFn] at hy
      obtain ⟨i, rfl⟩ := hy
      exact (Classical.choose_spec (key i)).2
    · rw [hlen]
      refine Nat.le_trans (Nat.mul_le_mul_right _ ?_) hw0
      omega
/-- A parameter that is a struct, by value. -/
theorem open_agg {t : TypeId} {fs : Array Field} {s base : Nat} {X : Type} {f : X → List Value} {Good : X → Prop} {v : Value} {d : DataW H} {p : List MemPlace} {ts : List TypeId} {ds : List (DataW H)} (hO : Opn enc P W t s f Good) (hs : P.underlying t = some (.struct fs)) (hv : Value.okWide P W .any base t v)
    (h : DataW.Trod enc P W 0 (fun _ => true) true t v d p) (hsz : (DataW.weightsEach P ts ds).all (· ≤ reachBytes) = true) (j : Nat) (ht : ts[j]? = some t) (hd : ds[j]? = some d) : ∃ x, v = .agg (f x).toArray ∧ Good x := by
  obtain ⟨cs, rfl, hz⟩ := okWide_struct hs hv
  obtain ⟨fuel, hf⟩ := h
  obtain ⟨x, hx, hg⟩ := hO.2.2 fuel _ _ hf (by rw [hO.1] at hz; simpa [Value.cells] using hz) (List.all_eq_true.2 fun k hk => List.all_eq_true.1 hsz k (DataW.weights_mem_each ht hd k hk))
  refine ⟨x, ?_, hg⟩
  rw [← hx]
  simp [Value.cells]
/-- A parameter that is a slice. -/
theorem open_sl {t e : TypeId} {s base : Nat} {X : Type} {f : X → List Value} {Good : X → Prop} {v : Value} {d : DataW H} {p : List MemPlace} {ts : List TypeId} {ds : List (DataW H)} (h0 : 0 < s) (hu : P.underlying t = some (.slice e)) (hct : P.cellsOf t = 1) (hO : Opn enc P W e s f Good) (hv : Value.okWide P W .any base t v)
    (h : DataW.Trod enc P W 0 (fun _ => true) true t v d p) (hsz : (DataW.weightsEach P ts ds).all (· ≤ reachBytes) = true) (j : Nat) (ht : ts[j]? = some t) (hd : ds[j]? = some d) : RowOf P W e s f Good v := by
  obtain ⟨a, len, cap, rfl⟩ := okWide_slice hu hv
  obtain ⟨fuel, hf⟩ := h
  obtain ⟨x, hx, hg⟩ := (opn_slice h0 hu hct hO).2.2 fuel _ _ hf (by simp [Value.cells]) (List.all_eq_true.2 fun k hk => List.all_eq_true.1 hsz k (DataW.weights_mem_each ht hd k hk))
  have e1 : Value.slice a len cap = x := by simpa [Value.cells] using hx
  rw [e1]
  exact hg
end
end Go.Proofs.YteigbejidfkhpaaDoor

/- Properties that came in. -/
namespace Go.Proofs.YteigbejidfkhpaaDoor
open Go Go.RowKit
open Go.ChangeShapes Go.WideShapes Go.Deep
set_option linter.unusedSimpArgs false
set_option linter.unusedVariables false

section
variable {H : Type} {enc : TypeId × Value → H} {W : World}
theorem opn_i64 {t : TypeId} (hu : Tryd.prog.underlying t = some (.int .i64)) (hc : Tryd.prog.cellsOf t = 1) : Opn enc Tryd.prog W t 1 (fun n : Int => [.int .i64 n]) (fun n => -9223372036854775808 ≤ n ∧ n ≤ 9223372036854775807) :=
  (opn_int hu hc).map id _ _ (fun _ => rfl) (fun _ => rfl) (fun x hx => wf_i64 hx)
/-- What a property that came in is good for. -/
def Prp.came (p : Prp) : Prop := p.nm.size ≤ 140737488351232 ∧ p.t.size ≤ 140737488351232 ∧ p.r < 18446744073709551616 ∧ (-9223372036854775808 ≤ p.n ∧ p.n ≤ 9223372036854775807) ∧ (-9223372036854775808 ≤ p.k ∧ p.k ≤ 9223372036854775807)
theorem opn_prop : Opn enc Tryd.prog W 48 5 Prp.cells Prp.came :=
  (opn_struct Tryd.underlying48 (by kernel_rfl) (opnF_cons (opn_string Tryd.underlying9 (by kernel_rfl)) rfl (opnF_cons
    (opn_struct Tryd.underlying46 (by kernel_rfl) (opnF_cons (opn_i64 Tryd.underlying3 (by kernel_rfl)) rfl (opnF_cons (opn_i64 Tryd.underlying3 (by kernel_rfl)) rfl (opnF_cons (opn_string Tryd.underlying9 (by kernel_rfl)) rfl (opnF_cons (opn_float Tryd.underlying41 (by kernel_rfl)) rfl (opnF_nil _)))))) rfl (opnF_nil _)))).map
    (fun x => ⟨x.1, x.2.1.1, x.2.1.2.1, x.2.1.2.2.1, x.2.1.2.2.2.1⟩) _ _ (fun _ => rfl) (fun _ => rfl) (fun x hx => ⟨hx.1, hx.2.1.2.2.1, hx.2.1.2.2.2.1, hx.2.1.2.1, hx.2.1.1⟩)

theorem flat_one {X : Type} (g : X → Value) (xs : List X) : xs.flatMap (fun x => [g x]) = xs.map g := by
  induction xs with
  | nil => rfl
  | cons a r ih => simp [List.flatMap_cons, ih]
set_option maxRecDepth 100000 in
theorem open_props {v : Value} {base : Nat} {d : DataW H} {p : List MemPlace} {ts : List TypeId} {ds : List (DataW H)} (hv : Value.okWide Tryd.prog W .any base 24 v) (h : DataW.Trod enc Tryd.prog W 0 (fun _ => true) true 24 v d p)
    (hsz : (DataW.weightsEach Tryd.prog ts ds).all (· ≤ reachBytes) = true) (j : Nat) (ht : ts[j]? = some 24) (hd : ds[j]? = some d) :
    ∃ ps : List Prp, RPr W v ps ∧ ∀ p ∈ ps, p.came := by
  obtain ⟨ps, r, g, _⟩ := open_sl (by omega) Tryd.underlying24 (by kernel_rfl) opn_prop hv h hsz j ht hd
  exact ⟨ps, r, g⟩
end
end Go.Proofs.YteigbejidfkhpaaDoor

/- TableBack: the statement's walk. -/
namespace Go.Proofs.YteigbejidfkhpaaDoor
open Go Go.RowKit
set_option linter.unusedSimpArgs false
set_option linter.unusedVariables false

theorem came_fit {ps : List Prp} (h : ∀ p ∈ ps, p.came) : ∀ p ∈ ps, p.r < 2 ^ 64 ∧ -9223372036854775808 ≤ p.n ∧ p.n ≤ 9223372036854775807 := fun p hp => ⟨(h p hp).2.2.1, (h p hp).2.2.2.1.1, (h p hp).2.2.2.1.2⟩
theorem app_bs (l : List UInt8) (s : ByteArray) : bs l ++ s = bs (l ++ s.data.toList) := by
  apply ba_ext
  rw [ByteArray.data_append, Array.toList_append, bs_list, bs_list]
theorem oi_ri {w : World} {B : Nat} {v : Value} {ns : List Int} (h : w.ownsRow B 3 1 v ns.length (ns.map (Value.int .i64))) : RI w v ns := own_rc h
theorem os_rs {w : World} {B : Nat} {v : Value} {ts : List ByteArray} (h : w.ownsRow B 9 1 v ts.length (ts.map Value.string)) : RS w v ts := own_rc h

set_option maxRecDepth 1000000 in
set_option maxHeartbeats 4000000 in
theorem tableBack_c {w : World} (m : Mth) {vl vn vt vp : Value} {ps : List Prp} (more : ByteArray) (hp : RPr w vl ps) (hc : ∀ p ∈ ps, p.came) (hm : MthIn w m vn vt vp) :
    Calls Tryd.prog 8 #[vl, .agg #[.int .i64 m.c, .int .i64 m.i, vn, vt, vp], .string more] w fun e w' => e = .returned (.bool true) ∧ Below w.heap.size w w' := by
  have bW := Lib.hid ((Below.refl w.heap.size w).alloc (Nat.le_refl _) (.cells #[.int .i64 m.c, .int .i64 m.i, vn, vt, vp] 26))
  have HM0 := Lib.hid (mb_new w m.c m.i vn vt vp)
  have HP := Lib.hid hp
  have HC := Lib.hid hc
  have HI := Lib.hid hm
  obtain ⟨Ap, cp, rfl⟩ := rc_any hp
  obtain ⟨An, cn, rfl⟩ := rc_any hm.rn
  obtain ⟨At, ct, rfl⟩ := rc_any hm.rt
  obtain ⟨Aq, cq, rfl⟩ := rc_any hm.rp
  clear hp hc hm
  go_enter Tryd.func8, Tryd.ntmps8
  go_wp2_with fail
  refine wakes_c.mono ?_
  rintro e w1 ⟨rfl, b1⟩
  have B1 := bW.out.trans (b1.mono bW.out.size)
  have M1 := mb_keeps HM0.out (keepsO_below b1)
  have HLG := Lib.hid (long_c (rc_below HP.out B1) (fun p hp => ⟨(HC.out p hp).1, (HC.out p hp).2.1⟩))
  go_wp2_with fail
  refine (HLG.out).mono ?_
  rintro e w2 ⟨lg, rfl, _, b2⟩
  have B2 := B1.trans (b2.mono B1.size)
  have M2 := Lib.hid (mb_keeps M1 (keepsO_below b2))
  have I2 := Lib.hid (mthIn_below HI.out B2)
  obtain ⟨m0, m1, m2, m3, m4⟩ := mb_facts M2.out
  clear b1 b2 HLG B1 M1 HM0
  cases lg with
  | true =>
    go_wp2_with fail
    go_ret
    exact ⟨rfl, B2⟩
  | false =>
    have HHV := Lib.hid (heavyIn I2.out)
    go_wp2_with fail
    refine (HHV.out).mono ?_
    rintro e w3 ⟨hv, rfl, _, b3⟩
    have B3 := B2.trans (b3.mono B2.size)
    have M3 := Lib.hid (mb_keeps M2.out (keepsO_below b3))
    clear b3 HHV M2 I2 B2 m0 m1 m2 m3 m4
    cases hv with
    | true =>
      go_wp2_with fail
      go_ret
      exact ⟨rfl, B3⟩
    | false =>
      by_cases hmo : 4096 < more.size
      · have hmI : (4096 : Int) < more.size := by omega
        clear hmo
        go_wp2_with fail
        go_ret
        exact ⟨rfl, B3⟩
      · have hmI : ¬ (4096 : Int) < more.size := by omega
        have HMO := Lib.hid (show more.size ≤ 4096 by omega)
        clear hmo
        go_upto_region 5 with fail
        clear hmI
        have kc := fun (w : World) (C : Array Value) (n c : Nat) => Lib.run_convert_bytes_const (P := Tryd.prog) w 29 5 C n c Tryd.underlying29 Tryd.underlying5
        have BA := Lib.hid (B3.alloc B3.size (.cells #[.int .u8 120] 5 (1, 2)))
        have RA := Lib.hid (show RB (w3.alloc (.cells #[.int .u8 120] 5 (1, 2))) (.slice (some ⟨w3.heap.size, 0, none⟩) 1 1) [120] from rc_new w3 5 1 1 (Lib.byteCells [120]) rfl (by omega))
        have MA := Lib.hid (mb_keeps M3.out (keepsO_below (below_al1 w3 (.cells #[.int .u8 120] 5 (1, 2)))))
        have PA := Lib.hid (rc_below HP.out BA.out)
        have HVL := Lib.hid (fun W (b : Below w.heap.size w W) => valid_c (rc_below HP.out b) (fun p hp => (HC.out p hp).1))
        cases hv : validB ps with
        | false =>
          have HPT := Lib.hid (putBad_c (v := .slice (some ⟨w3.heap.size, 0, none⟩) 1 1) PA.out (fun p hp => (HC.out p hp).1) hv)
          have HVF := Lib.hid hv
          clear hv
          go_wp2_with fail
          refine (HPT.out).mono ?_
          rintro e w4 ⟨rfl, b4⟩
          have B4 := BA.out.trans (b4.mono BA.out.size)
          have hV4 := HVL.out w4 B4
          rw [HVF.out] at hV4
          have HV4 := Lib.hid hV4
          have M4 := Lib.hid (mb_keeps MA.out (keepsO_below b4))
          clear b4 hV4 HPT
          go_wp2_with fail
          refine (HV4.out).mono ?_
          rintro e w5 ⟨rfl, b5⟩
          have B5 := Lib.hid (B4.trans (b5.mono B4.size))
          have M5 := Lib.hid (mb_keeps M4.out (keepsO_below b5))
          clear b5
          have IT := Lib.hid (mthIn_below HI.out B5.out)
          obtain ⟨m0, m1, m2, m3, m4⟩ := mb_facts M5.out
          have HEN := Lib.hid (encIn IT.out)
          clear HVL
          go_wp2_with fail
          refine (HEN.out).mono ?_
          intro e x1 h1
          obtain ⟨c1, h1⟩ := h1
          have BX1 := Lib.hid (B5.out.trans (c1.mono B5.out.size))
          have MX1 := Lib.hid (mb_keeps M5.out (keepsO_below c1))
          clear c1 HEN m0 m1 m2 m3 m4
          cases hmb : m.bytes with
          | none =>
            rw [hmb] at h1
            dsimp only at h1
            subst h1
            go_wp2_with fail
            go_ret
            exact ⟨rfl, BX1.out⟩
          | some l =>
            rw [hmb] at h1
            dsimp only at h1
            obtain ⟨v6, rfl, o6⟩ := h1
            have hsm := bytes_small hmb
            have hd1 : decP (bs l) = some m := by have h := dec_enc HI.out.fit hmb []; rw [List.append_nil, if_pos rfl] at h; exact h
            have hd2 : decP (bs (l ++ [120])) = none := by have h := dec_enc HI.out.fit hmb [120]; rw [if_neg (by simp)] at h; exact h
            have O6 := Lib.hid (ob_rb o6)
            have hcv : (convert 29 9 v6).run Tryd.prog x1 = .ok (.string (bs l)) x1 := rb_string (ob_rb o6)
            have hq := decode_c (w := x1) (bs l) (by rw [bs_size]; omega)
            unfold DecPost at hq
            rw [hd1] at hq
            have HQ := Lib.hid hq
            have HD2 := Lib.hid hd2
            have HSM := Lib.hid hsm
            clear hmb hsm hd1 hd2 o6 hq
            go_wp2_with fail
            refine (HQ.out).mono ?_
            rintro e x2 ⟨c2, wn, wt, wp, rfl, on, ot, op, _⟩
            obtain ⟨Bn, dn, rfl⟩ := rc_any (own_rc on)
            obtain ⟨Bt, dt, rfl⟩ := rc_any (own_rc ot)
            obtain ⟨Bp, dp, rfl⟩ := rc_any (ownP_rpr op)
            have BX2 := Lib.hid (BX1.out.trans (c2.mono BX1.out.size))
            have MX2 := mb_keeps MX1.out (keepsO_below c2)
            have al := below_al1 x2 (.cells #[.int .i64 m.c, .int .i64 m.i, .slice Bn m.ns.length dn, .slice Bt m.ts.length dt, .slice Bp m.ps.length dp] 26)
            have MX3 := Lib.hid (mb_keeps MX2 (keepsO_below al))
            have MY3 := Lib.hid (mb_new x2 m.c m.i (.slice Bn m.ns.length dn) (.slice Bt m.ts.length dt) (.slice Bp m.ps.length dp))
            have JT := mthIn_below (⟨oi_ri on, os_rs ot, ownP_rpr op, HI.out.fit, HI.out.nl, HI.out.tl, HI.out.tz, HI.out.pz⟩ : MthIn x2 m _ _ _) al
            have HSA := Lib.hid (sameIn JT (mthIn_below HI.out (BX2.out.trans (al.mono BX2.out.size))))
            have BX3 := Lib.hid (BX2.out.trans (al.mono BX2.out.size))
            have O7 := Lib.hid (rb_below (rb_below O6.out c2) al)
            clear c2 on ot op MX2 al JT HQ MX1 BX1 hcv
            obtain ⟨m0, m1, m2, m3, m4⟩ := mb_facts MX3.out
            obtain ⟨n0, n1, n2, n3, n4⟩ := mb_facts MY3.out
            go_wp2_with fail
            refine (HSA.out).mono ?_
            rintro e x4 ⟨bb, rfl, hbb, c4⟩
            obtain rfl : bb = true := by first | exact hbb.2 trivial | exact hbb.2 rfl | exact hbb
            have hcv2 : (convert 29 9 v6).run Tryd.prog x4 = .ok (.string (bs l)) x4 := rb_string (rb_below O7.out c4)
            have BX4 := Lib.hid (BX3.out.trans (c4.mono BX3.out.size))
            have hsz : (bs l).size + (⟨#[120]⟩ : ByteArray).size ≤ 9223372036854775807 := by rw [bs_size]; have := HSM.out; show l.length + 1 ≤ _; omega
            have hq := decode_c (w := x4) (bs l ++ ⟨#[120]⟩) (by rw [ByteArray.size_append, bs_size]; have := HSM.out; show l.length + 1 ≤ _; omega)
            unfold DecPost at hq
            rw [show bs l ++ ⟨#[120]⟩ = bs (l ++ [120]) from app_bs l ⟨#[120]⟩, HD2.out, ← show bs l ++ ⟨#[120]⟩ = bs (l ++ [120]) from app_bs l ⟨#[120]⟩] at hq
            have HQ := Lib.hid hq
            clear c4 hq m0 m1 m2 m3 m4 n0 n1 n2 n3 n4
            go_wp2_with fail
            refine (HQ.out).mono ?_
            rintro e x5 ⟨c5, rfl⟩
            go_wp2_with fail
            go_ret
            exact ⟨rfl, BX4.out.trans (c5.mono BX4.out.size)⟩
        | true =>
          have HPT := Lib.hid (put_c (base := 0) RA.out (by simp) PA.out (fun p hp => (HC.out p hp).1) (fun p hp => (HC.out p hp).2.2.1) hv)
          have HVF := Lib.hid hv
          clear hv
          go_wp2_with fail
          refine (HPT.out).mono ?_
          rintro e w4 ⟨v4, rfl, o4, b4⟩
          have B4 := BA.out.trans (b4.mono BA.out.size)
          have hV4 := HVL.out w4 B4
          rw [HVF.out] at hV4
          have HV4 := Lib.hid hV4
          have M4 := Lib.hid (mb_keeps MA.out (keepsO_below b4))
          have O4 := Lib.hid (show OB w4 (w3.alloc (.cells #[.int .u8 120] 5 (1, 2))).heap.size v4 (120 :: putB ps) from o4)
          clear b4 hV4 HPT o4
          go_wp2_with fail
          refine (HV4.out).mono ?_
          rintro e w5 ⟨rfl, b5⟩
          have B5 := Lib.hid (B4.trans (b5.mono B4.size))
          have M5 := Lib.hid (mb_keeps M4.out (keepsO_below b5))
          have R5 := Lib.hid (rb_below (ob_rb O4.out) b5)
          clear b5 O4
          obtain ⟨A4, d4, rfl⟩ := rc_any R5.out
          obtain ⟨k, hk⟩ : ∃ k, k = (putB ps).length := ⟨_, rfl⟩
          have HKE := Lib.hid hk
          have hks : k ≤ 5000 := by rw [hk]; have := props_small HVF.out; unfold putB; rw [List.length_append, beB_len]; omega
          have hcp : k + 1 ≤ d4 := by
            obtain ⟨_, _, e, h, _⟩ := id R5.out
            injection e with e1 e2 e3
            subst e3
            rw [hk]
            exact h
          have e1 : (120 :: putB ps).length = k + 1 := by rw [hk]; rfl
          have HE1 := Lib.hid e1
          have HMID := Lib.hid (fun j h1 h2 => rb_mid A4 d4 (120 :: putB ps) (by rw [HE1.out]; exact hcp) j h1 h2)
          obtain ⟨A5, hsl, hrb, _⟩ := rb_drop A4 d4 (120 :: putB ps) (by rw [e1]; exact hcp) 1 (by omega) (by rw [e1]; omega)
          have R6 := hrb _ R5.out
          have hcv : (convert 29 9 (.slice A5 k (d4 - 1))).run Tryd.prog w5 = .ok (.string (bs (putB ps))) w5 := by
            have h := rb_string R6
            rw [e1] at h
            exact h
          rw [e1] at hsl
          have hsl' : ∀ W : World, (Instr.slice 29 (.slice A4 (k + 1) d4) (some (.int .i64 1)) none none).run Tryd.prog W = .ok (.slice A5 k (d4 - 1)) W := hsl
          have R7 := Lib.hid R5.out
          rw [e1]
          have hb0 := rb_cell R5.out 0 120 rfl
          obtain ⟨ab, rfl, hb0⟩ := hb0
          rw [show ab.add 0 = ab by unfold Addr.add; simp] at hb0
          have hsz : (bs (putB ps)).size + more.size ≤ 9223372036854775807 := by rw [bs_size, ← hk]; have := HMO.out; omega
          have hq := tTake_c (w := w5) (bs (putB ps) ++ more) (by rw [ByteArray.size_append, bs_size, ← hk]; have := HMO.out; omega)
          unfold TakePost at hq
          rw [show tableP (bs (putB ps) ++ more) = some (ps, more) by rw [app_bs, tableP_put HVF.out (came_fit HC.out), bs_of]] at hq
          dsimp only at hq
          rw [show (((bs (putB ps) ++ more).size : Nat) : Int) - more.size = (k : Int) by rw [ByteArray.size_append, bs_size, ← hk]; omega] at hq
          have HQT := Lib.hid hq
          have hwk : IntKind.i64.wrap ((k : Int) + 1 - 1) = (k : Int) := by rw [show (k : Int) + 1 - 1 = k by omega]; exact IntWalk.i64_in _ (by omega)
          have hkI : (k : Int) ≤ 5000 := by omega
          have hk1 : (0 : Int) < (k : Int) + 1 := by omega
          clear hq hk hks hcp e1 hsl R6 hrb
          go_wp2_with fail
          refine (HQT.out).mono ?_
          rintro e w6 ⟨b6, v6, rfl, o6⟩
          have B6 := Lib.hid (B5.out.trans (b6.mono B5.out.size))
          have M6 := Lib.hid (mb_keeps M5.out (keepsO_below b6))
          have R8 := Lib.hid (rb_below R7.out b6)
          have hb1 := cell_below b6 (World.block_lt_of_cell? w5 _ hb0) hb0
          have HSS := Lib.hid (sameAll_c (ownP_rpr o6) (rc_below HP.out B6.out))
          clear b6 o6 HQT hcv hb0 R7
          go_wp2_with fail
          refine (HSS.out).mono ?_
          rintro e w7 ⟨bb, rfl, hbb, b7⟩
          obtain rfl : bb = true := by first | exact hbb.2 trivial | exact hbb.2 rfl | exact hbb
          have B7 := Lib.hid (B6.out.trans (b7.mono B6.out.size))
          have M7 := Lib.hid (mb_keeps M6.out (keepsO_below b7))
          have R9 := Lib.hid (rb_below R8.out b7)
          obtain ⟨w8, hw8⟩ : ∃ w8, w8 = w7 := ⟨_, rfl⟩
          have HW8 := Lib.hid hw8
          clear b7 hsl' hb1 hwk hk1 hbb M6 B6 R8 hw8
          go_wp2_with fail
          go_loopw [12] (fun i wx => ∃ j : Nat, 1 ≤ j ∧ j ≤ 20000 ∧ i = .int .i64 j ∧ Hid (Below w8.heap.size w8 wx)) (fun i _ => k + 1 - (intOf i).toNat)
          case atStart => exact ⟨1, by omega, by omega, rfl, Lib.hid (by rw [HW8.out]; exact Below.refl _ _)⟩
          case round =>
            obtain ⟨j, hj1, hj2, rfl, b8'⟩ := hrel
            have b8 := b8'.out
            rw [HW8.out] at b8
            have B8 := Lib.hid (B7.out.trans (b8.mono B7.out.size))
            by_cases hlt : j < k + 1
            · obtain ⟨v9, hmid, hmrb⟩ := HMID.out j hj1 (by rw [HE1.out]; omega)
              rw [HE1.out] at hmid
              have RM := hmrb _ (rb_below R9.out b8)
              have hl : (List.take j (120 :: putB ps)).drop 1 = (putB ps).take (j - 1) := by
                obtain ⟨i, rfl⟩ : ∃ i, j = i + 1 := ⟨j - 1, by omega⟩
                simp
              rw [hl] at RM
              have hcv : (convert 29 9 v9).run Tryd.prog wr = .ok (.string (bs ((putB ps).take (j - 1)))) wr := rb_string RM
              have hq := tTake_c (w := wr) (bs ((putB ps).take (j - 1))) (by rw [bs_size, List.length_take]; omega)
              unfold TakePost at hq
              rw [tableP_short HVF.out (by rw [← HKE.out]; omega)] at hq
              dsimp only at hq
              have HQT := Lib.hid hq
              have HB8 := Lib.hid b8
              have hltI : (j : Int) < (k : Int) + 1 := by omega
              have hj0 : (1 : Int) ≤ j := by omega
              have hjI : (j : Int) ≤ 5001 := by omega
              have HLT := Lib.hid hlt
              have HJ := Lib.hid (show 1 ≤ j ∧ j ≤ 5001 from ⟨hj1, by omega⟩)
              obtain ⟨s9, hs9⟩ : ∃ s9, s9 = bs ((putB ps).take (j - 1)) := ⟨_, rfl⟩
              rw [← hs9] at hcv HQT
              clear hq hl RM hmrb hlt b8 b8' hj1 hj2 hs9
              go_wp2_with fail
              refine (HQT.out).mono ?_
              rintro e w9 ⟨b9, rfl⟩
              go_wp2_with fail
              go_roundw
              case rel => exact ⟨j + (1 + (k + 1) / 40), by have := HJ.out; omega, by have := HJ.out; omega, by first | rfl | (congr 1; omega), Lib.hid (by rw [HW8.out]; exact HB8.out.trans (b9.mono HB8.out.size))⟩
              case measure => have := HLT.out; simp [intOf]; omega
            · have hltI : (k : Int) + 1 ≤ j := by omega
              have M8 := Lib.hid (mb_keeps M7.out (keepsO_below b8))
              clear hlt hj1 hj2 b8 b8'
              go_upto_region 18 with fail
              have IT := Lib.hid (mthIn_below HI.out B8.out)
              obtain ⟨m0, m1, m2, m3, m4⟩ := mb_facts M8.out
              have HEN := Lib.hid (encIn IT.out)
              clear HVL
              go_wp2_with fail
              refine (HEN.out).mono ?_
              intro e x1 h1
              obtain ⟨c1, h1⟩ := h1
              have BX1 := Lib.hid (B8.out.trans (c1.mono B8.out.size))
              have MX1 := Lib.hid (mb_keeps M8.out (keepsO_below c1))
              clear c1 HEN m0 m1 m2 m3 m4
              cases hmb : m.bytes with
              | none =>
                rw [hmb] at h1
                dsimp only at h1
                subst h1
                go_wp2_with fail
                go_ret
                exact ⟨rfl, BX1.out⟩
              | some l =>
                rw [hmb] at h1
                dsimp only at h1
                obtain ⟨v6, rfl, o6⟩ := h1
                have hsm := bytes_small hmb
                have hd1 : decP (bs l) = some m := by have h := dec_enc HI.out.fit hmb []; rw [List.append_nil, if_pos rfl] at h; exact h
                have hd2 : decP (bs (l ++ [120])) = none := by have h := dec_enc HI.out.fit hmb [120]; rw [if_neg (by simp)] at h; exact h
                have O6 := Lib.hid (ob_rb o6)
                have hcv : (convert 29 9 v6).run Tryd.prog x1 = .ok (.string (bs l)) x1 := rb_string (ob_rb o6)
                have hq := decode_c (w := x1) (bs l) (by rw [bs_size]; omega)
                unfold DecPost at hq
                rw [hd1] at hq
                have HQ := Lib.hid hq
                have HD2 := Lib.hid hd2
                have HSM := Lib.hid hsm
                clear hmb hsm hd1 hd2 o6 hq
                go_wp2_with fail
                refine (HQ.out).mono ?_
                rintro e x2 ⟨c2, wn, wt, wp, rfl, on, ot, op, _⟩
                obtain ⟨Bn, dn, rfl⟩ := rc_any (own_rc on)
                obtain ⟨Bt, dt, rfl⟩ := rc_any (own_rc ot)
                obtain ⟨Bp, dp, rfl⟩ := rc_any (ownP_rpr op)
                have BX2 := Lib.hid (BX1.out.trans (c2.mono BX1.out.size))
                have MX2 := mb_keeps MX1.out (keepsO_below c2)
                have al := below_al1 x2 (.cells #[.int .i64 m.c, .int .i64 m.i, .slice Bn m.ns.length dn, .slice Bt m.ts.length dt, .slice Bp m.ps.length dp] 26)
                have MX3 := Lib.hid (mb_keeps MX2 (keepsO_below al))
                have MY3 := Lib.hid (mb_new x2 m.c m.i (.slice Bn m.ns.length dn) (.slice Bt m.ts.length dt) (.slice Bp m.ps.length dp))
                have JT := mthIn_below (⟨oi_ri on, os_rs ot, ownP_rpr op, HI.out.fit, HI.out.nl, HI.out.tl, HI.out.tz, HI.out.pz⟩ : MthIn x2 m _ _ _) al
                have HSA := Lib.hid (sameIn JT (mthIn_below HI.out (BX2.out.trans (al.mono BX2.out.size))))
                have BX3 := Lib.hid (BX2.out.trans (al.mono BX2.out.size))
                have O7 := Lib.hid (rb_below (rb_below O6.out c2) al)
                clear c2 on ot op MX2 al JT HQ MX1 BX1 hcv
                obtain ⟨m0, m1, m2, m3, m4⟩ := mb_facts MX3.out
                obtain ⟨n0, n1, n2, n3, n4⟩ := mb_facts MY3.out
                go_wp2_with fail
                refine (HSA.out).mono ?_
                rintro e x4 ⟨bb, rfl, hbb, c4⟩
                obtain rfl : bb = true := by first | exact hbb.2 trivial | exact hbb.2 rfl | exact hbb
                have hcv2 : (convert 29 9 v6).run Tryd.prog x4 = .ok (.string (bs l)) x4 := rb_string (rb_below O7.out c4)
                have BX4 := Lib.hid (BX3.out.trans (c4.mono BX3.out.size))
                have hsz : (bs l).size + (⟨#[120]⟩ : ByteArray).size ≤ 9223372036854775807 := by rw [bs_size]; have := HSM.out; show l.length + 1 ≤ _; omega
                have hq := decode_c (w := x4) (bs l ++ ⟨#[120]⟩) (by rw [ByteArray.size_append, bs_size]; have := HSM.out; show l.length + 1 ≤ _; omega)
                unfold DecPost at hq
                rw [show bs l ++ ⟨#[120]⟩ = bs (l ++ [120]) from app_bs l ⟨#[120]⟩, HD2.out, ← show bs l ++ ⟨#[120]⟩ = bs (l ++ [120]) from app_bs l ⟨#[120]⟩] at hq
                have HQ := Lib.hid hq
                clear c4 hq m0 m1 m2 m3 m4 n0 n1 n2 n3 n4
                go_wp2_with fail
                refine (HQ.out).mono ?_
                rintro e x5 ⟨c5, rfl⟩
                go_wp2_with fail
                go_ret
                exact ⟨rfl, BX4.out.trans (c5.mono BX4.out.size)⟩
end Go.Proofs.YteigbejidfkhpaaDoor

/- TableMethods: the statement's walk. -/
namespace Go.Proofs.YteigbejidfkhpaaDoor
open Go Go.RowKit
set_option linter.unusedSimpArgs false
set_option linter.unusedVariables false

def enL (m : Mth) : List UInt8 := m.bytes.getD []
def enE (m : Mth) : Int := if m.bytes.isSome = true then 0 else 1
theorem encV {w w' : World} {m : Mth} {e : Ending} (h : EncM w m.bytes e w') : ∃ v, e = .returned (.tuple #[v, .int .i64 (enE m)]) ∧ RB w' v (enL m) ∧ Below w.heap.size w w' := by
  obtain ⟨b, h⟩ := h
  unfold enE enL
  cases hb : m.bytes with
  | none =>
    rw [hb] at h
    exact ⟨_, h, ob_rb (ob_nil w' 0), b⟩
  | some l =>
    rw [hb] at h
    obtain ⟨v, h1, o⟩ := h
    exact ⟨v, h1, ob_rb o, b⟩
def deM (s : ByteArray) : Mth := (decP s).getD ⟨0, 0, [], [], []⟩
def deE (s : ByteArray) : Int := if (decP s).isSome = true then 0 else 11
theorem step_len {x : UInt8} {st st' : DSt} (h : stepD x st = some st') : st'.ns.length ≤ st.ns.length + 1 ∧ st'.ts.length ≤ st.ts.length + 1 := by
  unfold stepD at h
  split at h
  · obtain ⟨q, _, h2⟩ := Option.bind_eq_some_iff.1 h
    split at h2
    · injection h2 with h2
      subst h2
      simp
    · cases h2
  · split at h
    · obtain ⟨q, _, h2⟩ := Option.map_eq_some_iff.1 h
      subst h2
      simp
    · split at h
      · obtain ⟨q, _, h2⟩ := Option.map_eq_some_iff.1 h
        subst h2
        simp
      · obtain ⟨q, _, h2⟩ := Option.bind_eq_some_iff.1 h
        split at h2
        · injection h2 with h2
          subst h2
          simp
        · cases h2
theorem run_len : ∀ (f : List UInt8) (st st' : DSt), runD f st = some st' → st'.ns.length ≤ st.ns.length + f.length ∧ st'.ts.length ≤ st.ts.length + f.length
  | [], st, st', h => by
    injection h with h
    subst h
    simp
  | x :: f, st, st', h => by
    obtain ⟨s1, h1, h2⟩ := Option.bind_eq_some_iff.1 (show (stepD x st).bind (runD f) = some st' from h)
    have a := step_len h1
    have b := run_len f s1 st' h2
    rw [List.length_cons]
    omega
theorem dec_len {s : ByteArray} {m : Mth} (h : decP s = some m) : m.ns.length ≤ 6 ∧ m.ts.length ≤ 6 := by
  unfold decP at h
  obtain ⟨a, _, h⟩ := Option.bind_eq_some_iff.1 h
  obtain ⟨b, _, h⟩ := Option.bind_eq_some_iff.1 h
  obtain ⟨f, hf, h⟩ := Option.bind_eq_some_iff.1 h
  obtain ⟨st, hr, h⟩ := Option.bind_eq_some_iff.1 h
  have h6 := (form_small hf).1
  have := run_len _ _ _ hr
  rw [ba_size] at this
  simp only [List.length_nil] at this
  split at h
  · injection h with h
    subst h
    dsimp only
    omega
  · cases h
/-- A method's three rows, read. -/
structure R3 (w : World) (m : Mth) (vn vt vp : Value) : Prop where
  n : RI w vn m.ns
  t : RS w vt m.ts
  p : RPr w vp m.ps
theorem R3.below {w w1 : World} {m : Mth} {vn vt vp : Value} (h : R3 w m vn vt vp) (b : Below w.heap.size w w1) : R3 w1 m vn vt vp := ⟨rc_below h.n b, rc_below h.t b, rc_below h.p b⟩
theorem decV {w w' : World} {s : ByteArray} {e : Ending} (h : DecPost w s e w') : ∃ vn vt vp, e = .returned (.tuple #[.agg #[.int .i64 (deM s).c, .int .i64 (deM s).i, vn, vt, vp], .int .i64 (deE s)]) ∧ R3 w' (deM s) vn vt vp ∧ Below w.heap.size w w' := by
  obtain ⟨b, h⟩ := h
  unfold deM deE
  cases hd : decP s with
  | none =>
    rw [hd] at h
    exact ⟨_, _, _, h, ⟨own_rc (own_nil w' 0 3 1), rs_nil w', rpr_nil w'⟩, b⟩
  | some m =>
    rw [hd] at h
    obtain ⟨vn, vt, vp, h1, h2, h3, h4, _⟩ := h
    exact ⟨vn, vt, vp, h1, ⟨oi_ri h2, os_rs h3, ownP_rpr h4⟩, b⟩
theorem deM_len (s : ByteArray) : (deM s).ns.length ≤ 140737488351232 ∧ (deM s).ts.length ≤ 140737488351232 := by
  unfold deM
  cases hd : decP s with
  | none => simp
  | some m =>
    have := dec_len hd
    simp only [Option.getD_some]
    omega
theorem refEncIn {w : World} {m : Mth} {vn vt vp : Value} (h : MthIn w m vn vt vp) : Calls Tryd.prog 25 #[.agg #[.int .i64 m.c, .int .i64 m.i, vn, vt, vp]] w (EncM w m.bytes) :=
  refEncode_c m.c m.i m.ns m.ts m.ps h.rn h.rt h.rp h.fit.1 h.nl h.tl (fun p hp => (h.pz p hp).1) (fun p hp => (h.fit.2 p hp).1)

set_option maxRecDepth 1000000 in
set_option maxHeartbeats 4000000 in
theorem tableMethods_c {w : World} (m : Mth) {vn vt vp : Value} (s : ByteArray) (hm : MthIn w m vn vt vp) :
    Calls Tryd.prog 6 #[.agg #[.int .i64 m.c, .int .i64 m.i, vn, vt, vp], .string s] w fun e w' => e = .returned (.bool true) ∧ Below w.heap.size w w' := by
  have bW := Lib.hid ((Below.refl w.heap.size w).alloc (Nat.le_refl _) (.cells #[.int .i64 m.c, .int .i64 m.i, vn, vt, vp] 26))
  have HM0 := Lib.hid (mb_new w m.c m.i vn vt vp)
  have HI := Lib.hid hm
  obtain ⟨An, cn, rfl⟩ := rc_any hm.rn
  obtain ⟨At, ct, rfl⟩ := rc_any hm.rt
  obtain ⟨Aq, cq, rfl⟩ := rc_any hm.rp
  clear hm
  go_enter Tryd.func6, Tryd.ntmps6
  go_wp2_with fail
  refine wakes_c.mono ?_
  rintro e w1 ⟨rfl, b1⟩
  have B1 := Lib.hid (bW.out.trans (b1.mono bW.out.size))
  have M1 := Lib.hid (mb_keeps HM0.out (keepsO_below b1))
  have I1 := Lib.hid (mthIn_below HI.out B1.out)
  have HHV := Lib.hid (heavyIn I1.out)
  obtain ⟨m0, m1, m2, m3, m4⟩ := mb_facts M1.out
  clear b1 HM0 bW
  go_wp2_with fail
  refine (HHV.out).mono ?_
  rintro e w3 ⟨hv, rfl, _, b3⟩
  have B3 := Lib.hid (B1.out.trans (b3.mono B1.out.size))
  have M3 := Lib.hid (mb_keeps M1.out (keepsO_below b3))
  clear b3 HHV M1 I1 B1 m0 m1 m2 m3 m4
  cases hv with
  | true =>
    go_wp2_with fail
    go_ret
    exact ⟨rfl, B3.out⟩
  | false =>
    by_cases h2 : 16384 < s.size
    · have h2I : (16384 : Int) < s.size := by omega
      clear h2
      go_wp2_with fail
      go_ret
      exact ⟨rfl, B3.out⟩
    · have h2I : ¬ (16384 : Int) < s.size := by omega
      have H2 := Lib.hid (show s.size ≤ 16384 by omega)
      clear h2
      go_upto_region 5 with fail
      clear h2I
      obtain ⟨m0, m1, m2, m3, m4⟩ := mb_facts M3.out
      have HF := Lib.hid (form_c (w := w3) m.c m.i)
      obtain ⟨ff, hff⟩ : ∃ ff, ff = (formCI m.c m.i).getD ByteArray.empty := ⟨_, rfl⟩
      obtain ⟨fi, hfi⟩ : ∃ fi, fi = (formCI m.c m.i).isSome := ⟨_, rfl⟩
      have HF2 := Lib.hid (refForm_c (w := w3) m.c m.i)
      rw [← hff, ← hfi] at HF HF2
      clear hff hfi
      go_wp2_with fail
      refine (HF.out).mono ?_
      rintro e w4 ⟨rfl, rfl⟩
      clear HF
      go_wp2_with fail
      refine (HF2.out).mono ?_
      rintro e w4 ⟨rfl, b4⟩
      have B4 := Lib.hid (B3.out.trans (b4.mono B3.out.size))
      have M4 := Lib.hid (mb_keeps M3.out (keepsO_below b4))
      have HE1 := Lib.hid (encIn (mthIn_below HI.out B4.out))
      clear b4 HF2 M3 B3 m0 m1 m2 m3 m4
      obtain ⟨m0, m1, m2, m3, m4⟩ := mb_facts M4.out
      go_wp2_with fail
      refine (HE1.out).mono ?_
      intro e w5 h5
      obtain ⟨v5, rfl, r5, b5⟩ := encV h5
      have B5 := Lib.hid (B4.out.trans (b5.mono B4.out.size))
      have M5 := Lib.hid (mb_keeps M4.out (keepsO_below b5))
      have R5 := Lib.hid r5
      have HE2 := Lib.hid (refEncIn (mthIn_below HI.out B5.out))
      clear b5 r5 h5 HE1 M4 B4 m0 m1 m2 m3 m4
      obtain ⟨m0, m1, m2, m3, m4⟩ := mb_facts M5.out
      go_wp2_with fail
      refine (HE2.out).mono ?_
      intro e w6 h6
      obtain ⟨v6, rfl, r6, b6⟩ := encV h6
      have B6 := Lib.hid (B5.out.trans (b6.mono B5.out.size))
      have R6 := Lib.hid r6
      have R56 := Lib.hid (rb_below R5.out b6)
      have HD1 := Lib.hid (decode_c (w := w6) s (by have := H2.out; omega))
      clear b6 r6 h6 HE2 M5 B5 R5 m0 m1 m2 m3 m4
      obtain ⟨D, hD⟩ : ∃ D, D = deM s := ⟨_, rfl⟩
      have HDL := Lib.hid (show D.ns.length ≤ 140737488351232 ∧ D.ts.length ≤ 140737488351232 from hD ▸ deM_len s)
      have HD := Lib.hid hD
      clear hD
      go_wp2_with fail
      refine (HD1.out).mono ?_
      intro e w7 h7
      obtain ⟨pn, pt, pp, rfl, r7, b7⟩ := decV h7
      rw [← HD.out] at r7 ⊢
      obtain ⟨An7, cn7, rfl⟩ := rc_any r7.n
      obtain ⟨At7, ct7, rfl⟩ := rc_any r7.t
      obtain ⟨Ap7, cp7, rfl⟩ := rc_any r7.p
      have al := below_al1 w7 (.cells #[.int .i64 D.c, .int .i64 D.i, .slice An7 D.ns.length cn7, .slice At7 D.ts.length ct7, .slice Ap7 D.ps.length cp7] 26)
      have B8 := Lib.hid (B6.out.trans ((b7.trans (al.mono b7.size)).mono B6.out.size))
      have M8 := Lib.hid (mb_new w7 D.c D.i (.slice An7 D.ns.length cn7) (.slice At7 D.ts.length ct7) (.slice Ap7 D.ps.length cp7))
      have T8 := Lib.hid (r7.below al)
      have R58 := Lib.hid (rb_below (rb_below R56.out b7) al)
      have R68 := Lib.hid (rb_below (rb_below R6.out b7) al)
      have HD2 := Lib.hid (refDecode_c (w := w7.alloc (.cells #[.int .i64 D.c, .int .i64 D.i, .slice An7 D.ns.length cn7, .slice At7 D.ts.length ct7, .slice Ap7 D.ps.length cp7] 26)) s (by have := H2.out; omega))
      clear b7 r7 h7 al HD1 B6 R56 R6
      go_wp2_with fail
      refine (HD2.out).mono ?_
      intro e w9 h9
      obtain ⟨qn, qt, qp, rfl, r9, b9⟩ := decV h9
      rw [← HD.out] at r9 ⊢
      obtain ⟨An9, cn9, rfl⟩ := rc_any r9.n
      obtain ⟨At9, ct9, rfl⟩ := rc_any r9.t
      obtain ⟨Ap9, cp9, rfl⟩ := rc_any r9.p
      have al := below_al1 w9 (.cells #[.int .i64 D.c, .int .i64 D.i, .slice An9 D.ns.length cn9, .slice At9 D.ts.length ct9, .slice Ap9 D.ps.length cp9] 26)
      have bb := b9.trans (al.mono b9.size)
      have BX := Lib.hid (B8.out.trans (bb.mono B8.out.size))
      have MX := Lib.hid (mb_keeps M8.out (keepsO_below bb))
      have MY := Lib.hid (mb_new w9 D.c D.i (.slice An9 D.ns.length cn9) (.slice At9 D.ts.length ct9) (.slice Ap9 D.ps.length cp9))
      have TX := T8.out.below bb
      have TY := r9.below al
      have HSA := Lib.hid (methSame_c D D TX.n TX.t TX.p TY.n TY.t TY.p HDL.out.1 HDL.out.2)
      have hc3 := rb_string (rb_below R58.out bb)
      have hc4 := rb_string (rb_below R68.out bb)
      obtain ⟨x, hx⟩ : ∃ x : ByteArray, x = ⟨(enL m).toArray⟩ := ⟨_, rfl⟩
      rw [← hx] at hc3 hc4
      obtain ⟨m0, m1, m2, m3, m4⟩ := mb_facts MX.out
      obtain ⟨n0, n1, n2, n3, n4⟩ := mb_facts MY.out
      clear b9 r9 h9 al bb HD2 B8 R58 R68 M8 T8 TX TY hx HD
      go_wp2_with fail
      refine (HSA.out).mono ?_
      rintro e x4 ⟨b, rfl, hbb, c4⟩
      obtain rfl : b = true := by first | exact hbb.2 trivial | exact hbb.2 rfl | exact hbb
      go_wp2_with fail
      go_ret
      exact ⟨rfl, BX.out.trans (c4.mono BX.out.size)⟩
end Go.Proofs.YteigbejidfkhpaaDoor

/- Properties and methods that came in. -/
namespace Go.Proofs.YteigbejidfkhpaaDoor
open Go Go.RowKit
open Go.ChangeShapes Go.WideShapes Go.Deep
set_option linter.unusedSimpArgs false
set_option linter.unusedVariables false

section
variable {H : Type} {enc : TypeId × Value → H} {W : World}
def mthCells (x : Int × Int × Value × Value × Value × Unit) : List Value := [.int .i64 x.1, .int .i64 x.2.1, x.2.2.1, x.2.2.2.1, x.2.2.2.2.1]
set_option maxRecDepth 100000 in
theorem open_meth {v : Value} {base : Nat} {d : DataW H} {p : List MemPlace} {ts : List TypeId} {ds : List (DataW H)} (hv : Value.okWide Tryd.prog W .any base 26 v) (h : DataW.Trod enc Tryd.prog W 0 (fun _ => true) true 26 v d p)
    (hsz : (DataW.weightsEach Tryd.prog ts ds).all (· ≤ reachBytes) = true) (j : Nat) (ht : ts[j]? = some 26) (hd : ds[j]? = some d) :
    ∃ (m : Mth) (vn vt vp : Value), v = .agg #[.int .i64 m.c, .int .i64 m.i, vn, vt, vp] ∧ MthIn W m vn vt vp := by
  have hO : Opn enc Tryd.prog W 26 5 _ _ := opn_struct Tryd.underlying26 (by kernel_rfl) (opnF_cons (opn_i64 Tryd.underlying3 (by kernel_rfl)) rfl (opnF_cons (opn_i64 Tryd.underlying3 (by kernel_rfl)) rfl
    (opnF_cons (opn_slice (by omega) Tryd.underlying22 (by kernel_rfl) (opn_i64 Tryd.underlying3 (by kernel_rfl))) rfl
    (opnF_cons (opn_slice (by omega) Tryd.underlying23 (by kernel_rfl) (opn_string Tryd.underlying9 (by kernel_rfl))) rfl
    (opnF_cons (opn_slice (by omega) Tryd.underlying24 (by kernel_rfl) opn_prop) rfl (opnF_nil _))))))
  obtain ⟨x, rfl, g1, g2, ⟨ns, r3, g3, l3⟩, ⟨tx, r4, g4, l4⟩, ⟨ps, r5, g5, l5⟩, _⟩ := open_agg hO Tryd.underlying26 hv h hsz j ht hd
  obtain ⟨c, i, vn, vt, vp, u⟩ := x
  dsimp only at r3 r4 r5
  rw [flat_one] at r3 r4
  have b3 : Tryd.prog.bytesOf 3 = 8 := by kernel_rfl
  have b4 : Tryd.prog.bytesOf 9 = 16 := by kernel_rfl
  rw [b3] at l3
  rw [b4] at l4
  exact ⟨⟨c, i, ns, tx, ps⟩, vn, vt, vp, rfl, r3, r4, r5, ⟨fun n hn => (g3 n hn).2, fun p hp => ⟨(g5 p hp).2.2.1, (g5 p hp).2.2.2.1⟩⟩, by show ns.length ≤ _; omega, by show tx.length ≤ _; omega, g4, fun p hp => ⟨(g5 p hp).1, (g5 p hp).2.1⟩⟩
end
end Go.Proofs.YteigbejidfkhpaaDoor
