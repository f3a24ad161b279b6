/- Texts of this claim, joined: DeB, DeC, RgD, RgE, RgA, RgB, RgW, RgC, RkA, RkB, RmD. -/
import Derived.Test.YteigbejidfkhpaaDoorMTma2
import Derived.Deep.RegionHeld3
import Derived.BigQuiet
import Derived.Deep.DeepCutAuto
import Derived.Deep.CutRange
import Derived.Deep.QuietTactic
import Derived.RegionDies
import Derived.Deep.RegionLaw
/- Layer 15: table.Decode: the reading itself. -/
namespace Go.Proofs.YteigbejidfkhpaaDoor
open Go Go.RowKit Go.Sort
set_option linter.unusedSimpArgs false
set_option linter.unusedVariables false

def DPost (w : World) (G M : Nat) (s : ByteArray) (e : Ending) (w' : World) : Prop :=
  Two w w' G M ∧ match decP s with
    | some m => e = .returned (.tuple #[]) ∧ ∃ vn vt vp, MB w' M m.c m.i vn vt vp ∧ w'.ownsRow w.heap.size 3 1 vn m.ns.length (m.ns.map (Value.int .i64)) ∧ w'.ownsRow w.heap.size 9 1 vt m.ts.length (m.ts.map Value.string) ∧ OwnP w' w.heap.size vp m.ps ∧ ∀ k, vn.ownBlock = some k → vp.ownBlock ≠ some k
    | none => e = StopE
theorem dpost_no {w w' : World} {G M : Nat} {s : ByteArray} (h : decP s = none) (t : Two w w' G M) : DPost w G M s StopE w' := by
  unfold DPost
  rw [h]
  exact ⟨t, rfl⟩
theorem dpost_yes {w w' : World} {G M : Nat} {s : ByteArray} {m : Mth} {vn vt vp : Value} (h : decP s = some m) (t : Two w w' G M) (hm : MB w' M m.c m.i vn vt vp) (h1 : w'.ownsRow w.heap.size 3 1 vn m.ns.length (m.ns.map (Value.int .i64))) (h2 : w'.ownsRow w.heap.size 9 1 vt m.ts.length (m.ts.map Value.string)) (h3 : OwnP w' w.heap.size vp m.ps) (h4 : ∀ k, vn.ownBlock = some k → vp.ownBlock ≠ some k) : DPost w G M s (.returned (.tuple #[])) w' := by
  unfold DPost
  rw [h]
  exact ⟨t, rfl, vn, vt, vp, hm, h1, h2, h3, h4⟩
theorem dec_no1 {s : ByteArray} (h : numP 2 s = none) : decP s = none := by unfold decP; rw [h]; rfl
theorem dec_no2 {s s1 : ByteArray} {a : Nat} (h : numP 2 s = some (a, s1)) (h2 : numP 2 s1 = none) : decP s = none := by
  unfold decP
  rw [h, Option.bind_some]
  dsimp only
  rw [h2]
  rfl

set_option maxRecDepth 1000000 in
set_option maxHeartbeats 2000000 in
theorem dec1_no1 {w : World} {G M K : Nat} {s : ByteArray} (hG : RD w G s) (hK : w.heap[K]? = some (.cells #[.pointer (some ⟨G, 0, none⟩)] 66 (0, 0))) (hn : numP 2 s = none) :
    Calls Tryd.prog 47 #[.pointer (some ⟨K, 0, none⟩), .pointer (some ⟨M, 0, none⟩)] w (DPost w G M s) := by
  have HN := Lib.hid (pr_no (rdNumber_c (w := w.drew) hG 2 (by omega) 2 rfl) hn)
  have c5 : w.cell? ⟨K, 0, none⟩ = some (.pointer (some ⟨G, 0, none⟩)) := by simp [World.cell?, hK]
  have HO := Lib.hid (dec_no1 hn)
  clear hn hG hK
  go_enter Tryd.func47, Tryd.ntmps47
  go_wp2_with fail
  go_region_dies
  all_goals
    refine (HN.out).mono ?_
    rintro e w1 ⟨rfl, g1⟩
    exact ⟨rfl, dpost_no HO.out ((Two.refl w G M).grown (grownBy_trans (grownBy_below (below_drewN w 1) _) g1) (fun k e _ => .inl (by injection e with e; exact e.symm)))⟩

set_option maxRecDepth 1000000 in
set_option maxHeartbeats 2000000 in
theorem dec1_no2 {w : World} {G M K : Nat} {s s1 : ByteArray} {a : Nat} (hG : RD w G s) (hK : w.heap[K]? = some (.cells #[.pointer (some ⟨G, 0, none⟩)] 66 (0, 0))) (hgk : G ≠ K) (hn : numP 2 s = some (a, s1)) (hn2 : numP 2 s1 = none) :
    Calls Tryd.prog 47 #[.pointer (some ⟨K, 0, none⟩), .pointer (some ⟨M, 0, none⟩)] w (DPost w G M s) := by
  have HN := Lib.hid (pr_yes (rdNumber_c (w := w.drew) hG 2 (by omega) 2 rfl) hn)
  have c5 : w.cell? ⟨K, 0, none⟩ = some (.pointer (some ⟨G, 0, none⟩)) := by simp [World.cell?, hK]
  have HO := Lib.hid (dec_no2 hn hn2)
  have HKL := Lib.hid (World.block_lt_of_cell? w _ c5)
  have HC5 := Lib.hid c5
  have HN2 := Lib.hid hn2
  have HGK := Lib.hid hgk
  have hal : a < 65536 := numP_lt hn
  have hwa : IntKind.i64.wrap (a : Int) = (a : Int) := IntWalk.i64_in _ (by omega)
  clear hn hG hK hn2 hgk hal
  go_enter Tryd.func47, Tryd.ntmps47
  go_wp2_with fail
  go_region_dies
  · rename_i K' hK'
    refine (HN.out).mono ?_
    rintro e w1 ⟨rfl, r1, g1⟩
    have c6 : w1.cell? ⟨K, 0, none⟩ = some (.pointer (some ⟨G, 0, none⟩)) := (World.cell?_of_block (w := w) (g1.block K HKL.out (fun e => by injection e with e; exact HGK.out e.symm))).trans HC5.out
    have HM := Lib.hid (pr_no (rdNumber_c r1 2 (by omega) 2 rfl) HN2.out)
    have G1 := Lib.hid g1
    clear r1 g1
    refine hK' _ _ ?_
    clear hK' K'
    refine wpAny_take (i := 2) (v := .int .i64 a) rfl (by kernel_rfl) (by kernel_rfl) (by kernel_rfl) (fun _ _ _ h => h) (Or.inl ⟨by rfl, ?_⟩) ?_
    · intro w; go_simp
    refine wpAny_ready (rs := [3]) (by kernel_rfl) (by simp) ?_
    refine AllReady.cons rfl (fun K' hK' => ?_) AllReady.nil
    go_simp
    refine hK' _ _ ?_
    clear hK' K'
    refine wpAny_ready (rs := [4]) (by kernel_rfl) (by simp) ?_
    refine AllReady.cons rfl (fun K' hK' => ?_) AllReady.nil
    go_simp
    refine (HM.out).mono ?_
    rintro e w2 ⟨rfl, g2⟩
    exact ⟨rfl, dpost_no HO.out ((Two.refl w G M).grown (grownBy_trans (grownBy_trans (grownBy_below (below_drewN w 1) _) G1.out) g2) (fun k e _ => .inl (by injection e with e; exact e.symm)))⟩
  · rename_i K' hK'
    refine (HN.out).mono ?_
    rintro e w1 ⟨rfl, r1, g1⟩
    have c6 : w1.cell? ⟨K, 0, none⟩ = some (.pointer (some ⟨G, 0, none⟩)) := (World.cell?_of_block (w := w) (g1.block K HKL.out (fun e => by injection e with e; exact HGK.out e.symm))).trans HC5.out
    have HM := Lib.hid (pr_no (rdNumber_c r1 2 (by omega) 2 rfl) HN2.out)
    have G1 := Lib.hid g1
    clear r1 g1
    refine hK' _ _ ?_
    clear hK' K'
    refine wpAny_take (i := 2) (v := .int .i64 a) rfl (by kernel_rfl) (by kernel_rfl) (by kernel_rfl) (fun _ _ _ h => h) (Or.inl ⟨by rfl, ?_⟩) ?_
    · intro w; go_simp
    refine wpAny_ready (rs := [4]) (by kernel_rfl) (by simp) ?_
    refine AllReady.cons rfl (fun K' hK' => ?_) AllReady.nil
    go_simp
    refine (HM.out).mono ?_
    rintro e w2 ⟨rfl, g2⟩
    exact ⟨rfl, dpost_no HO.out ((Two.refl w G M).grown (grownBy_trans (grownBy_trans (grownBy_below (below_drewN w 1) _) G1.out) g2) (fun k e _ => .inl (by injection e with e; exact e.symm)))⟩
  · rename_i K' hK'
    refine (HN.out).mono ?_
    rintro e w1 ⟨rfl, r1, g1⟩
    have c6 : w1.cell? ⟨K, 0, none⟩ = some (.pointer (some ⟨G, 0, none⟩)) := (World.cell?_of_block (w := w) (g1.block K HKL.out (fun e => by injection e with e; exact HGK.out e.symm))).trans HC5.out
    have HM := Lib.hid (pr_no (rdNumber_c r1 2 (by omega) 2 rfl) HN2.out)
    have G1 := Lib.hid g1
    clear r1 g1
    refine hK' _ _ ?_
    clear hK' K'
    refine wpAny_take (i := 2) (v := .int .i64 a) rfl (by kernel_rfl) (by kernel_rfl) (by kernel_rfl) (fun _ _ _ h => h) (Or.inl ⟨by rfl, ?_⟩) ?_
    · intro w; go_simp
    refine wpAny_ready (rs := [4]) (by kernel_rfl) (by simp) ?_
    refine AllReady.cons rfl (fun K' hK' => ?_) AllReady.nil
    go_simp
    refine (HM.out).mono ?_
    rintro e w2 ⟨rfl, g2⟩
    exact ⟨rfl, dpost_no HO.out ((Two.refl w G M).grown (grownBy_trans (grownBy_trans (grownBy_below (below_drewN w 1) _) G1.out) g2) (fun k e _ => .inl (by injection e with e; exact e.symm)))⟩

theorem dec_noF {s s1 s2 : ByteArray} {a b : Nat} (h : numP 2 s = some (a, s1)) (h2 : numP 2 s1 = some (b, s2)) (hf : formCI a b = none) : decP s = none := by
  unfold decP
  rw [h, Option.bind_some]
  dsimp only
  rw [h2, Option.bind_some]
  dsimp only
  rw [hf]
  rfl
theorem dec_run {s s1 s2 f : ByteArray} {a b : Nat} (h : numP 2 s = some (a, s1)) (h2 : numP 2 s1 = some (b, s2)) (hf : formCI a b = some f) :
    decP s = (runD f.data.toList ⟨[], [], [], s2⟩).bind fun st => if st.r.size = 0 then some ⟨a, b, st.ns, st.ts, st.ps⟩ else none := by
  unfold decP
  rw [h, Option.bind_some]
  dsimp only
  rw [h2, Option.bind_some]
  dsimp only
  rw [hf]
  rfl
/-- What holds at the head of the loop. -/
structure DI (w wr : World) (G M K IB : Nat) (f : ByteArray) (pos : Nat) (c i : Int) (total : Option DSt) (vn vt vp : Value) (st : DSt) : Prop where
  dc : DC w wr G M K IB f pos c i vn vt vp st.ns st.ts st.ps
  rd : RD wr G st.r
  tot : total = runD (f.data.toList.drop pos) st
  rz : st.r.size ≤ 1073741824
  ln : st.ns.length ≤ pos
  lt : st.ts.length ≤ pos

theorem di_start {w W : World} {G M K : Nat} {f s2 : ByteArray} {a b : Nat} (TW : Two w W G M) (MBW : MB W M a b (.slice none 0 0) (.slice none 0 0) (.slice none 0 0)) (KW : W.heap[K]? = some (.cells #[.pointer (some ⟨G, 0, none⟩)] 66 (0, 0))) (RW : RD W G s2) (h2 : s2.size ≤ 1073741824) :
    DI w (W.iter f 0) G M K W.heap.size f 0 a b (runD f.data.toList ⟨[], [], [], s2⟩) (.slice none 0 0) (.slice none 0 0) (.slice none 0 0) ⟨[], [], [], s2⟩ := by
  have hal : W.grownBy (W.iter f 0) none := grownBy_below (below_al1 W (.stringIter f 0)) none
  have hno : ∀ k, (none : Option Nat) ≠ some k := fun k e => by cases e
  exact ⟨⟨blk_kept MBW hal (hno _), blk_kept KW hal (hno _), World.iter_heap W f 0, own_nil _ _ _ _, own_nil _ _ _ _, .inl ⟨rfl, rfl⟩, TW.grown hal (fun k e _ => absurd e (hno k)), (fun k hk => by cases hk), (fun k hk => by cases hk), (by intro h; cases h)⟩, blk_kept RW hal (hno _), rfl, h2, Nat.le_refl _, Nat.le_refl _⟩

set_option maxRecDepth 1000000 in
set_option maxHeartbeats 8000000 in
theorem dec1_c {w : World} {G M K : Nat} {s s1 s2 : ByteArray} {a b : Nat} (hG : RD w G s) (hM : MB w M 0 0 (.slice none 0 0) (.slice none 0 0) (.slice none 0 0)) (hK : w.heap[K]? = some (.cells #[.pointer (some ⟨G, 0, none⟩)] 66 (0, 0))) (hgk : G ≠ K) (hgm : G ≠ M) (hmk : M ≠ K) (hs : s.size ≤ 1073741824) (hn : numP 2 s = some (a, s1)) (hn2 : numP 2 s1 = some (b, s2)) :
    Calls Tryd.prog 47 #[.pointer (some ⟨K, 0, none⟩), .pointer (some ⟨M, 0, none⟩)] w (DPost w G M s) := by
  have HN := Lib.hid (pr_yes (rdNumber_c (w := w.drew) hG 2 (by omega) 2 rfl) hn)
  have c5 : w.drew.cell? ⟨K, 0, none⟩ = some (.pointer (some ⟨G, 0, none⟩)) := (show w.cell? ⟨K, 0, none⟩ = some (.pointer (some ⟨G, 0, none⟩)) by simp [World.cell?, hK])
  have HGL := Lib.hid (rd_lt hG)
  have HML := Lib.hid (show M < w.heap.size from (Array.getElem?_eq_some_iff.1 hM).1)
  have HKL := Lib.hid (show K < w.heap.size from (Array.getElem?_eq_some_iff.1 hK).1)
  have HM0 := Lib.hid hM
  have HK0 := Lib.hid hK
  have HNE := Lib.hid (show G ≠ K ∧ G ≠ M ∧ M ≠ K from ⟨hgk, hgm, hmk⟩)
  have HN2 := Lib.hid hn2
  have HNF := Lib.hid (fun h => dec_noF hn hn2 h)
  have HRUN := Lib.hid (fun f h => dec_run (f := f) hn hn2 h)
  have hal : a < 65536 := numP_lt hn
  have hbl : b < 65536 := numP_lt hn2
  have hwa : IntKind.i64.wrap (a : Int) = (a : Int) := IntWalk.i64_in _ (by omega)
  have hwb : IntKind.i64.wrap (b : Int) = (b : Int) := IntWalk.i64_in _ (by omega)
  have HS2 := Lib.hid (show s2.size ≤ 1073741824 by have := numP_size hn; have := numP_size hn2; omega)
  have hkm : K ≠ M := fun e => hmk e.symm
  clear hn hG hK hn2 hgk hgm hal hbl hM hs
  go_enter Tryd.func47, Tryd.ntmps47
  go_wp2_with fail
  go_region_held3 (fun w' => w'.cell? ⟨K, 0, none⟩ = some (.pointer (some ⟨G, 0, none⟩)))
    (first | exact c5 | go_keep)
    (first
      | (go_at_call 48; refine (HM2.out).mono ?_; rintro e w2 ⟨rfl, r2, g2⟩; have G2 := Lib.hid (G1.out.trans g2); have R2 := Lib.hid r2; have MB2 := Lib.hid (show MB w2 M 0 0 (.slice none 0 0) (.slice none 0 0) (.slice none 0 0) from blk_kept HM0.out G2.out (fun e => HNE.out.2.1 (by injection e))); obtain ⟨m0, m1, m2, m3, m4⟩ := mb_facts MB2.out; have n0 := mb_frozen MB2.out 0; have n1 := mb_frozen MB2.out 1; have c5 : w2.cell? ⟨K, 0, none⟩ = some (.pointer (some ⟨G, 0, none⟩)) := (by simp [World.cell?, blk_kept HK0.out G2.out (fun e => HNE.out.1 (by injection e))]); clear r2 g2)
      | (go_at_call 48; refine (HN.out).mono ?_; rintro e w1 ⟨rfl, r1, g1⟩; have G1 := Lib.hid (show w.grownBy w1 (some G) from grownBy_trans (grownBy_below (below_drewN w 1) _) g1); have c5 : w1.cell? ⟨K, 0, none⟩ = some (.pointer (some ⟨G, 0, none⟩)) := (by simp [World.cell?, blk_kept HK0.out G1.out (fun e => HNE.out.1 (by injection e))]); have HM2 := Lib.hid (pr_yes (rdNumber_c r1 2 (by omega) 2 rfl) HN2.out); clear r1 g1))
  obtain ⟨W, hW⟩ : ∃ W, W = (w2.setCell ⟨M, 0, none⟩ (.int .i64 a)).setCell ⟨M, 1, none⟩ (.int .i64 b) := ⟨_, rfl⟩
  have MBW := Lib.hid (show MB W M a b (.slice none 0 0) (.slice none 0 0) (.slice none 0 0) by rw [hW]; exact mb_set1 (mb_set0 MB2.out a) b)
  have RW := Lib.hid (show RD W G s2 by rw [hW]; exact blk_kept (blk_kept R2.out (grownBy_set _ M 0 _) (fun e => HNE.out.2.1 (by injection e with e; exact e.symm))) (grownBy_set _ M 1 _) (fun e => HNE.out.2.1 (by injection e with e; exact e.symm)))
  have KW := Lib.hid (show W.heap[K]? = some (.cells #[.pointer (some ⟨G, 0, none⟩)] 66 (0, 0)) by rw [hW]; exact blk_kept (blk_kept (blk_kept HK0.out G2.out (fun e => HNE.out.1 (by injection e))) (grownBy_set _ M 0 _) (fun e => HNE.out.2.2 (by injection e))) (grownBy_set _ M 1 _) (fun e => HNE.out.2.2 (by injection e)))
  have TW := Lib.hid (show Two w W G M by rw [hW]; exact ((((Two.refl w G M).grown G2.out (fun k e _ => .inl (by injection e with e; exact e.symm))).set 0 _).set 1 _))
  rw [← hW]
  clear hW HN HM2 G1 R2 MB2 G2 c5 m0 m1 m2 m3 m4 n0 n1 hwa hwb hmk hkm
  obtain ⟨m0, m1, m2, m3, m4⟩ := mb_facts MBW.out
  have hF := form_c (w := W) a b
  cases hf : formCI a b with
  | none =>
    rw [hf] at hF
    simp only [Option.getD_none, Option.isSome_none] at hF
    have HF := Lib.hid hF
    have HNO := Lib.hid (HNF.out hf)
    clear hF hf
    go_wp2_with (first
      | (go_at_call 23; refine (HF.out).mono ?_; rintro e w3 ⟨rfl, rfl⟩)
      | (go_at_call 49; refine unless_no.mono ?_; rintro e w4 ⟨rfl, rfl⟩))
    exact ⟨rfl, dpost_no HNO.out TW.out⟩
  | some f =>
    rw [hf] at hF
    simp only [Option.getD_some, Option.isSome_some] at hF
    have HF := Lib.hid hF
    have HSM := Lib.hid (form_small hf)
    have HR := Lib.hid (HRUN.out f hf)
    clear hF hf
    go_wp2_with (first
      | (go_at_call 23; refine (HF.out).mono ?_; rintro e w3 ⟨rfl, rfl⟩)
      | (go_at_call 49; refine unless_yes.mono ?_; rintro e w4 ⟨rfl, rfl⟩))
    obtain ⟨total, htot⟩ : ∃ t, t = runD f.data.toList ⟨[], [], [], s2⟩ := ⟨_, rfl⟩
    rw [← htot] at HR
    have HTO := Lib.hid htot
    have HDL := Lib.hid (show DL w G M K W.heap.size from ⟨HGL.out, HML.out, HKL.out, HNE.out.2.1, HNE.out.1, HNE.out.2.2, TW.out.size⟩)
    clear htot
    go_loopw [5] (fun _ wr => ∃ (pos : Nat) (vn vt vp : Value) (st : DSt), pos ≤ f.size ∧ Hid (DI w wr G M K W.heap.size f pos a b total vn vt vp st)) (fun _ wr => f.size - wr.iterPos W.heap.size)
    case atStart =>
      exact ⟨0, _, _, _, ⟨[], [], [], s2⟩, Nat.zero_le _, Lib.hid (by rw [HTO.out]; exact di_start TW.out MBW.out KW.out RW.out HS2.out)⟩
    case round =>
      obtain ⟨pos, vn, vt, vp, st, hpos, HI⟩ := hrel
      clear MBW KW RW HTO m0 m1 m2 m3 m4
      by_cases hlt : pos < f.size
      · have hnx : ∀ ty, (Instr.next (.pointer (some ⟨W.heap.size, 0, none⟩)) true ty).run Tryd.prog wr = .ok (.tuple #[.bool true, .int .i64 pos, .int .i32 (f[pos]'hlt).toNat]) (wr.iterAt W.heap.size f (pos + 1)) := fun ty => Lib.run_next_ascii_at wr _ f pos ty HI.out.dc.it hlt (small_at HSM.out hlt)
        obtain ⟨V, hV⟩ : ∃ V, V = wr.iterAt W.heap.size f (pos + 1) := ⟨_, rfl⟩
        rw [← hV] at hnx
        have D1 := Lib.hid (show DC w V G M K W.heap.size f (pos + 1) a b vn vt vp st.ns st.ts st.ps by rw [hV]; exact HI.out.dc.iter HDL.out (pos + 1))
        have R1 := Lib.hid (show RD V G st.r by rw [hV]; unfold RD; rw [Lib.iterAt_other _ _ _ _ _ (by have := HDL.out.g; have := HDL.out.ib; omega)]; exact HI.out.rd)
        have hdr := drop_at hlt
        have hmeas := Lib.hid (iterPos_of HI.out.dc.it)
        obtain ⟨x, hx⟩ : ∃ x : UInt8, x = f[pos] := ⟨_, rfl⟩
        rw [← hx] at hnx hdr
        have HDR := Lib.hid hdr
        have HPOS := Lib.hid hlt
        have HSTOP := Lib.hid (show stepD x st = none → decP s = none from fun h => by rw [HR.out, run_stop HI.out.tot (by rw [hdr]; rfl) h]; rfl)
        have HNEXT := Lib.hid (show ∀ st', stepD x st = some st' → total = runD (f.data.toList.drop (pos + 1)) st' from fun st' h => run_next HI.out.tot hdr h)
        obtain ⟨z, hz⟩ : ∃ z, z = sizeOf' (x.toNat : Int) := ⟨_, rfl⟩
        have hSZ := sizes_c (w := V) (x.toNat : Int)
        rw [← hz] at hSZ
        have HSZC := Lib.hid hSZ
        have HZ := Lib.hid hz
        have ck : V.cell? ⟨K, 0, none⟩ = some (.pointer (some ⟨G, 0, none⟩)) := by simp [World.cell?, D1.out.kc]
        have HP6 := Lib.hid (show pos + 1 ≤ 6 by have := HSM.out.1; omega)
        clear hV hdr hx hlt hz hSZ hpos
        by_cases hz0 : 0 < z
        · have hzI : (0 : Int) < z := by omega
          have HZI := Lib.hid hz0
          have hz8 : z ≤ 8 := by rw [HZ.out]; rcases size_cases (x.toNat : Int) with e | e | e | e | e <;> omega
          have HQ := rdNumber_c R1.out z hz8 z rfl
          clear hz0 hz8
          cases hn3 : numP z st.r with
          | none =>
            have HNU := Lib.hid (pr_no HQ hn3)
            have HNO := Lib.hid (HSTOP.out (sd_num_none HZ.out HZI.out hn3))
            clear HQ hn3
            go_wp2_with (first
              | (go_at_call 48; refine (HNU.out).mono ?_; rintro e w6 ⟨rfl, g6⟩)
              | (go_at_call 29; refine (HSZC.out).mono ?_; rintro e w5 ⟨rfl, rfl⟩))
            exact ⟨rfl, dpost_no HNO.out ((D1.out.step HDL.out g6 (.inr rfl)).two)⟩
          | some q =>
            obtain ⟨n, r⟩ := q
            have HNU := Lib.hid (pr_yes HQ hn3)
            have hn64 : n < 18446744073709551616 := by
              have h8 := numP_lt hn3
              have : 256 ^ z ≤ 256 ^ 8 := Nat.pow_le_pow_right (by decide) (by rw [HZ.out]; rcases size_cases (x.toNat : Int) with e | e | e | e | e <;> omega)
              have e8 : (256 : Nat) ^ 8 = 18446744073709551616 := by decide
              omega
            have HRZ := Lib.hid (show r.size ≤ 1073741824 by have := numP_size hn3; have := HI.out.rz; omega)
            by_cases hneg : n < 9223372036854775808
            · have hw : IntKind.i64.wrap (n : Int) = (n : Int) := IntWalk.i64_in _ (by omega)
              have hst := Lib.hid (HNEXT.out _ (sd_num_ok HZ.out HZI.out hn3 hneg))
              obtain ⟨N, hN⟩ : ∃ N : Int, N = (n : Int) := ⟨_, rfl⟩
              rw [← hN] at hw hst HNU
              have hN0 : 0 ≤ N := by omega
              clear HQ hn3 hneg hn64 hN
              go_wp2_with (first
                | (at_builtin; refine app_num D6.out HDL.out R6.out N (by have := HI.out.ln; have := HP6.out; omega) rfl (.tmp 57) (.tmp 59) rfl rfl rfl ?_; intro A8 c8 w8 M8 d9 r9; have D9 := Lib.hid d9; have R9 := Lib.hid r9; obtain ⟨_, _, k2, _, _⟩ := mb_facts M8; have n2 := mb_frozen M8 2; clear d9 r9)
                | (go_at_call 48; refine (HNU.out).mono ?_; rintro e w6 ⟨rfl, r6, g6⟩; have D6 := Lib.hid (D1.out.step HDL.out g6 (.inr rfl)); have R6 := Lib.hid r6; obtain ⟨m0, m1, m2, m3, m4⟩ := mb_facts D6.out.mb; clear r6 g6)
                | (go_at_call 29; refine (HSZC.out).mono ?_; rintro e w5 ⟨rfl, rfl⟩)
                | (go_at_call 49; refine unless_yes.mono ?_; rintro e w7 ⟨rfl, rfl⟩))
              go_roundw
              case rel => exact ⟨pos + 1, _, vt, vp, ⟨st.ns ++ [N], st.ts, st.ps, r⟩, HPOS.out, Lib.hid ⟨D9.out, R9.out, hst.out, HRZ.out, by have := HI.out.ln; simp only [List.length_append, List.length_cons, List.length_nil]; omega, Nat.le_succ_of_le HI.out.lt⟩⟩
              case measure => rw [iterPos_of D9.out.it, hmeas.out]; have := HPOS.out; omega
            · have hw : IntKind.i64.wrap (n : Int) = (n : Int) - 18446744073709551616 := by rw [IntKind.wrap_i64]; omega
              have HNO := Lib.hid (HSTOP.out (sd_num_neg HZ.out HZI.out hn3 hneg))
              obtain ⟨N, hN⟩ : ∃ N : Int, N = (n : Int) - 18446744073709551616 := ⟨_, rfl⟩
              rw [← hN] at hw
              have hN0 : N < 0 := by omega
              have hN1 : decide (0 ≤ N) = false := by rw [decide_eq_false_iff_not]; omega
              clear HQ hn3 hneg hn64 hN
              go_wp2_with (first
                | (go_at_call 48; refine (HNU.out).mono ?_; rintro e w6 ⟨rfl, r6, g6⟩; have D6 := Lib.hid (D1.out.step HDL.out g6 (.inr rfl)); clear r6 g6)
                | (go_at_call 29; refine (HSZC.out).mono ?_; rintro e w5 ⟨rfl, rfl⟩)
                | (go_at_call 49; refine unless_no.mono ?_; rintro e w7 ⟨rfl, rfl⟩))
              exact ⟨rfl, dpost_no HNO.out D6.out.two⟩
        · have hz1 : z = 0 := by omega
          subst hz1
          clear hz0
          by_cases hx : x = 84
          · have HX := Lib.hid hx
            have hxI : ((x.toNat : Int) == 84) = true := by rw [hx]; rfl
            have HTB := rdTable_c R1.out HI.out.rz
            clear hx
            cases ht : tableP st.r with
            | none =>
              rw [ht] at HTB
              have HTB' := Lib.hid HTB
              have HNO := Lib.hid (HSTOP.out (by rw [sd_tab HZ.out HX.out, ht]; rfl))
              clear HTB ht
              go_wp2_with (first
                | (go_at_call 38; refine (HTB'.out).mono ?_; rintro e w6 ⟨g6, rfl⟩)
                | (go_at_call 29; refine (HSZC.out).mono ?_; rintro e w5 ⟨rfl, rfl⟩))
              exact ⟨rfl, dpost_no HNO.out ((D1.out.step HDL.out g6 (.inr rfl)).two)⟩
            | some q =>
              obtain ⟨qs, r⟩ := q
              rw [ht] at HTB
              have HTB' := Lib.hid HTB
              have hst := Lib.hid (HNEXT.out ⟨st.ns, st.ts, qs, r⟩ (by rw [sd_tab HZ.out HX.out, ht]; rfl))
              have HRZ := Lib.hid (show r.size ≤ 1073741824 by have := tableP_size ht; have := HI.out.rz; omega)
              clear HTB ht
              go_wp2_with (first
                | (go_at_call 38; refine (HTB'.out).mono ?_; rintro e w6 ⟨g6, v6, rfl, hv6, hr6⟩; obtain ⟨A6, c6, rfl⟩ := rc_any (ownP_rpr hv6); have D9 := Lib.hid (D1.out.set4 HDL.out g6 hv6); have R9 := Lib.hid (rd_kept hr6 (grownBy_set w6 M 4 (.slice A6 qs.length c6)) (fun e => HDL.out.gm (by injection e with e; exact e.symm))); have D6 := D1.out.step HDL.out g6 (.inr rfl); obtain ⟨_, _, _, _, k4⟩ := mb_facts D6.mb; have n4 := mb_frozen D6.mb 4; clear g6 hv6 hr6 D6)
                | (go_at_call 29; refine (HSZC.out).mono ?_; rintro e w5 ⟨rfl, rfl⟩))
              go_roundw
              case rel => exact ⟨pos + 1, vn, vt, _, ⟨st.ns, st.ts, qs, r⟩, HPOS.out, Lib.hid ⟨D9.out, R9.out, hst.out, HRZ.out, Nat.le_succ_of_le HI.out.ln, Nat.le_succ_of_le HI.out.lt⟩⟩
              case measure => rw [iterPos_of D9.out.it, hmeas.out]; have := HPOS.out; omega
          · have HX := Lib.hid hx
            have hxI : ((x.toNat : Int) == 84) = false := beq_eq_false_iff_ne.2 (fun e => hx (UInt8.toNat_inj.1 (by show x.toNat = 84; omega)))
            clear hx
            by_cases hs : x = 115
            · have HS := Lib.hid hs
              have hsI : ((x.toNat : Int) == 115) = true := by rw [hs]; rfl
              have HSH := rdShort_c (w := V.drew) R1.out
              obtain ⟨m0, m1, m2, m3, m4⟩ := mb_facts D1.out.mb
              clear hs
              cases ht : shortP st.r with
              | none =>
                have HSN := Lib.hid (pr_no HSH ht)
                have HNO := Lib.hid (HSTOP.out (by rw [sd_short HZ.out HX.out HS.out, ht]; rfl))
                clear HSH ht
                go_upto_region 17 with (go_at_call 29; refine (HSZC.out).mono ?_; rintro e w5 ⟨rfl, rfl⟩)
                go_region_dies
                all_goals
                  refine (HSN.out).mono ?_
                  rintro e w6 ⟨rfl, g6⟩
                  exact ⟨rfl, dpost_no HNO.out ((D1.out.step HDL.out (grownBy_trans (grownBy_below (below_drewN V 1) _) g6) (.inr rfl)).two)⟩
              | some q =>
                obtain ⟨y, r⟩ := q
                have HSN := Lib.hid (pr_yes HSH ht)
                have hst := Lib.hid (HNEXT.out ⟨st.ns, st.ts ++ [y], st.ps, r⟩ (by rw [sd_short HZ.out HX.out HS.out, ht]; rfl))
                have HRZ := Lib.hid (show r.size ≤ 1073741824 by have := shortP_size ht; have := HI.out.rz; omega)
                clear HSH ht
                go_upto_region 17 with (go_at_call 29; refine (HSZC.out).mono ?_; rintro e w5 ⟨rfl, rfl⟩)
                go_region_law (first
                  | (refine step_txt D6.out HDL.out R6.out y (by have := HI.out.lt; have := HP6.out; omega) rfl (.tmp 72) (.tmp 75) rfl rfl rfl ?_; intro A8 c8 w8 M8 d9 r9; have D9 := Lib.hid d9; have R9 := Lib.hid r9; obtain ⟨_, _, _, k3, _⟩ := mb_facts M8; have n3 := mb_frozen M8 3; clear d9 r9)
                  | (go_simp; go_at_call 50; refine (HSN.out).mono ?_; rintro e w6 ⟨rfl, r6, g6⟩; have D6 := Lib.hid (D1.out.step HDL.out (grownBy_trans (grownBy_below (below_drewN V 1) _) g6) (.inr rfl)); have R6 := Lib.hid r6; obtain ⟨_, _, _, k3, _⟩ := mb_facts D6.out.mb; have ck6 : w6.cell? ⟨K, 0, none⟩ = some (.pointer (some ⟨G, 0, none⟩)) := (by simp [World.cell?, D6.out.kc]); have k3a : (w6.alloc (.cells #[.string y] 9)).cell? ⟨M, 3, none⟩ = some vt := cell_below (below_al1 w6 _) (World.block_lt_of_cell? w6 _ k3) k3; clear r6 g6))
                all_goals
                  go_wp2_with fail
                  go_roundw
                  case rel => exact ⟨pos + 1, vn, _, vp, ⟨st.ns, st.ts ++ [y], st.ps, r⟩, HPOS.out, Lib.hid ⟨D9.out, R9.out, hst.out, HRZ.out, Nat.le_succ_of_le HI.out.ln, by have := HI.out.lt; simp only [List.length_append, List.length_cons, List.length_nil]; omega⟩⟩
                  case measure => rw [iterPos_of D9.out.it, hmeas.out]; have := HPOS.out; omega
            · have HS := Lib.hid hs
              have hsI : ((x.toNat : Int) == 115) = false := beq_eq_false_iff_ne.2 (fun e => hs (UInt8.toNat_inj.1 (by show x.toNat = 115; omega)))
              have HLO := rdLong_c R1.out (by have := HI.out.rz; omega)
              clear hs
              cases ht : longP st.r with
              | none =>
                have HLN := Lib.hid (pr_no HLO ht)
                have HNO := Lib.hid (HSTOP.out (by rw [sd_long HZ.out HX.out HS.out, ht]; rfl))
                clear HLO ht
                go_wp2_with (first
                  | (go_at_call 51; refine (HLN.out).mono ?_; rintro e w6 ⟨rfl, g6⟩)
                  | (go_at_call 29; refine (HSZC.out).mono ?_; rintro e w5 ⟨rfl, rfl⟩))
                exact ⟨rfl, dpost_no HNO.out ((D1.out.step HDL.out g6 (.inr rfl)).two)⟩
              | some q =>
                obtain ⟨y, r⟩ := q
                have HLN := Lib.hid (pr_yes HLO ht)
                have HRZ := Lib.hid (show r.size ≤ 1073741824 by have := longP_size ht; have := HI.out.rz; omega)
                by_cases hy : y.size ≤ 1024
                · have hst := Lib.hid (HNEXT.out ⟨st.ns, st.ts ++ [y], st.ps, r⟩ (by rw [sd_long HZ.out HX.out HS.out, ht, Option.bind_some]; exact if_pos hy))
                  have hyI : (y.size : Int) ≤ 1024 := by omega
                  clear HLO ht hy
                  go_wp2_with (first
                    | (at_builtin; refine app_txt D6.out HDL.out R6.out y (by have := HI.out.lt; have := HP6.out; omega) rfl (.tmp 41) (.tmp 43) rfl rfl rfl ?_; intro A8 c8 w8 M8 d9 r9; have D9 := Lib.hid d9; have R9 := Lib.hid r9; obtain ⟨_, _, _, k3, _⟩ := mb_facts M8; have n3 := mb_frozen M8 3; clear d9 r9)
                    | (go_at_call 51; refine (HLN.out).mono ?_; rintro e w6 ⟨rfl, r6, g6⟩; have D6 := Lib.hid (D1.out.step HDL.out g6 (.inr rfl)); have R6 := Lib.hid r6; obtain ⟨_, _, _, k3, _⟩ := mb_facts D6.out.mb; clear r6 g6)
                    | (go_at_call 29; refine (HSZC.out).mono ?_; rintro e w5 ⟨rfl, rfl⟩)
                    | (go_at_call 49; refine unless_yes.mono ?_; rintro e w7 ⟨rfl, rfl⟩))
                  go_roundw
                  case rel => exact ⟨pos + 1, vn, _, vp, ⟨st.ns, st.ts ++ [y], st.ps, r⟩, HPOS.out, Lib.hid ⟨D9.out, R9.out, hst.out, HRZ.out, Nat.le_succ_of_le HI.out.ln, by have := HI.out.lt; simp only [List.length_append, List.length_cons, List.length_nil]; omega⟩⟩
                  case measure => rw [iterPos_of D9.out.it, hmeas.out]; have := HPOS.out; omega
                · have HNO := Lib.hid (HSTOP.out (by rw [sd_long HZ.out HX.out HS.out, ht, Option.bind_some]; exact if_neg hy))
                  have hyI : (1024 : Int) < y.size := by omega
                  have hyD : decide ((y.size : Int) ≤ 1024) = false := by rw [decide_eq_false_iff_not]; omega
                  clear HLO ht hy
                  go_wp2_with (first
                    | (go_at_call 51; refine (HLN.out).mono ?_; rintro e w6 ⟨rfl, r6, g6⟩; have D6 := Lib.hid (D1.out.step HDL.out g6 (.inr rfl)); clear r6 g6)
                    | (go_at_call 29; refine (HSZC.out).mono ?_; rintro e w5 ⟨rfl, rfl⟩)
                    | (go_at_call 49; refine unless_no.mono ?_; rintro e w7 ⟨rfl, rfl⟩))
                  exact ⟨rfl, dpost_no HNO.out D6.out.two⟩
      · have hnx : ∀ ty, (Instr.next (.pointer (some ⟨W.heap.size, 0, none⟩)) true ty).run Tryd.prog wr = .ok (.tuple #[.bool false]) wr := fun ty => Lib.run_next_end_at wr _ f pos ty HI.out.dc.it hlt
        have hnil : f.data.toList.drop pos = [] := List.drop_eq_nil_of_le (by rw [ba_size]; omega)
        have HEN := Lib.hid (show decP s = if st.r.size = 0 then some ⟨a, b, st.ns, st.ts, st.ps⟩ else none from by rw [HR.out, HI.out.tot, hnil]; rfl)
        have ck : wr.cell? ⟨K, 0, none⟩ = some (.pointer (some ⟨G, 0, none⟩)) := by simp [World.cell?, HI.out.dc.kc]
        obtain ⟨g0, _⟩ := rd_facts HI.out.rd
        have HDC := Lib.hid HI.out.dc
        clear hlt hnil
        by_cases hr0 : st.r.size = 0
        · have HYES := Lib.hid (show decP s = some ⟨a, b, st.ns, st.ts, st.ps⟩ by rw [HEN.out, if_pos hr0])
          rw [ba_nil hr0] at g0
          clear hr0
          go_wp2_with (go_at_call 49; refine unless_yes.mono ?_; rintro e w7 ⟨rfl, rfl⟩)
          go_end0
          exact dpost_yes HYES.out HDC.out.two HDC.out.mb HDC.out.oi HDC.out.os HDC.out.op HDC.out.di
        · have HNO := Lib.hid (show decP s = none by rw [HEN.out, if_neg hr0])
          have hE := ne_nil st.r (by omega)
          clear hr0
          go_wp2_with (go_at_call 49; refine unless_no.mono ?_; rintro e w7 ⟨rfl, rfl⟩)
          exact ⟨rfl, dpost_no HNO.out HDC.out.two⟩

theorem decode1_c {w : World} {G M K : Nat} {s : ByteArray} (hG : RD w G s) (hM : MB w M 0 0 (.slice none 0 0) (.slice none 0 0) (.slice none 0 0)) (hK : w.heap[K]? = some (.cells #[.pointer (some ⟨G, 0, none⟩)] 66 (0, 0))) (hgk : G ≠ K) (hgm : G ≠ M) (hmk : M ≠ K) (hs : s.size ≤ 1073741824) :
    Calls Tryd.prog 47 #[.pointer (some ⟨K, 0, none⟩), .pointer (some ⟨M, 0, none⟩)] w (DPost w G M s) := by
  cases hn : numP 2 s with
  | none => exact dec1_no1 hG hK hn
  | some q =>
    obtain ⟨a, s1⟩ := q
    cases hn2 : numP 2 s1 with
    | none => exact dec1_no2 hG hK hgk hn hn2
    | some q2 =>
      obtain ⟨b, s2⟩ := q2
      exact dec1_c hG hM hK hgk hgm hmk hs hn hn2
end Go.Proofs.YteigbejidfkhpaaDoor

/- Layer 15: table.Decode. -/
namespace Go.Proofs.YteigbejidfkhpaaDoor
open Go Go.RowKit
set_option linter.unusedSimpArgs false
set_option linter.unusedVariables false

theorem results_row_t {P : Program} {fn : Func} {p u : Tmp} {ty : TypeId} (h : fn.results = #[.cell p ty, .tmp u]) (tmps : Array Value) (w : World) (g : Nat) (t : TypeId) (cs : Array Value) (fr : Nat × Nat) (d : TypeDesc)
    (hp : tmps.getD p undef = .pointer (some ⟨g, 0, none⟩)) (hg : w.heap[g]? = some (.cells cs t fr))
    (hu : P.underlying ty = some d) (hd : (match d with | .struct _ | .array _ _ => true | _ => false) = true) (hi : (P.info? ty).map (·.size) = some cs.size) :
    (results fn tmps).run P w = .ok (.tuple #[.agg cs, tmps.getD u undef]) w := by
  have hp' : tmps[p]?.getD undef = .pointer (some ⟨g, 0, none⟩) := by simpa using hp
  simp [results, h, hp', asAddr, run_loadVar_row w g t ty cs fr d hg hu hd hi]
theorem method_end {fn : Func} (h : fn.results = #[.cell 2 26, .tmp 3]) {R : Ending → World → Prop} {a : Act} {w : World} {g : Nat} {t : TypeId} {c0 c1 c2 c3 c4 : Value} {fr : Nat × Nat}
    (hp : a.tmps.getD 2 undef = .pointer (some ⟨g, 0, none⟩)) (hg : w.heap[g]? = some (.cells #[c0, c1, c2, c3, c4] t fr)) (hd : a.defers = [])
    (hR : R (.returned (.tuple #[.agg #[c0, c1, c2, c3, c4], a.tmps.getD 3 undef])) w) : bodyPost Tryd.prog fn R .ret a w :=
  bodyPost_ret (results_row_t h _ _ _ _ _ _ _ hp hg Tryd.underlying26 rfl (by kernel_rfl)) hd hR

/-- What Decode leaves. -/
def DecPost (w : World) (s : ByteArray) (e : Ending) (w' : World) : Prop :=
  Below w.heap.size w w' ∧ match decP s with
    | some m => ∃ vn vt vp, e = .returned (.tuple #[.agg #[.int .i64 m.c, .int .i64 m.i, vn, vt, vp], .int .i64 0]) ∧ w'.ownsRow w.heap.size 3 1 vn m.ns.length (m.ns.map (Value.int .i64)) ∧ w'.ownsRow w.heap.size 9 1 vt m.ts.length (m.ts.map Value.string) ∧ OwnP w' w.heap.size vp m.ps ∧ ∀ k, vn.ownBlock = some k → vp.ownBlock ≠ some k
    | none => e = .returned (.tuple #[.agg #[.int .i64 0, .int .i64 0, .slice none 0 0, .slice none 0 0, .slice none 0 0], .int .i64 11])
theorem decpost_no {w w' : World} {s : ByteArray} (h : decP s = none) (b : Below w.heap.size w w') : DecPost w s (.returned (.tuple #[.agg #[.int .i64 0, .int .i64 0, .slice none 0 0, .slice none 0 0, .slice none 0 0], .int .i64 11])) w' := by
  unfold DecPost
  rw [h]
  exact ⟨b, rfl⟩
theorem decpost_yes {w w' : World} {s : ByteArray} {m : Mth} {vn vt vp : Value} (h : decP s = some m) (b : Below w.heap.size w w') (h1 : w'.ownsRow w.heap.size 3 1 vn m.ns.length (m.ns.map (Value.int .i64))) (h2 : w'.ownsRow w.heap.size 9 1 vt m.ts.length (m.ts.map Value.string)) (h3 : OwnP w' w.heap.size vp m.ps) (h4 : ∀ k, vn.ownBlock = some k → vp.ownBlock ≠ some k) :
    DecPost w s (.returned (.tuple #[.agg #[.int .i64 m.c, .int .i64 m.i, vn, vt, vp], .int .i64 0])) w' := by
  unfold DecPost
  rw [h]
  exact ⟨b, vn, vt, vp, rfl, h1, h2, h3, h4⟩

abbrev zM : Obj := .cells #[.int .i64 0, .int .i64 0, .slice none 0 0, .slice none 0 0, .slice none 0 0] 26
/-- Four blocks, laid one behind the other. -/
def W4 (w : World) (s : ByteArray) : World := (((w.alloc zM).alloc (.cells #[.string s] 68)).alloc (.cells #[.pointer (some ⟨w.heap.size + 1, 0, none⟩)] 66)).alloc zM
theorem w4_facts (w : World) (s : ByteArray) : (W4 w s).heap[w.heap.size]? = some zM ∧ RD (W4 w s) (w.heap.size + 1) s ∧ (W4 w s).heap[w.heap.size + 2]? = some (.cells #[.pointer (some ⟨w.heap.size + 1, 0, none⟩)] 66 (0, 0)) ∧ MB (W4 w s) (w.heap.size + 3) 0 0 (.slice none 0 0) (.slice none 0 0) (.slice none 0 0) ∧ (W4 w s).heap.size = w.heap.size + 4 ∧ Below w.heap.size w (W4 w s) := by
  obtain ⟨h0, h1, h2, h3⟩ := three_blocks w zM (.cells #[.string s] 68) (.cells #[.pointer (some ⟨w.heap.size + 1, 0, none⟩)] 66)
  have hs : (W4 w s).heap.size = w.heap.size + 4 := by
    show (Array.push _ _).size = _
    rw [Array.size_push, h3]
  have b3 : Below w.heap.size w (((w.alloc zM).alloc (.cells #[.string s] 68)).alloc (.cells #[.pointer (some ⟨w.heap.size + 1, 0, none⟩)] 66)) := (((Below.refl _ _).alloc (Nat.le_refl _) _).alloc (by simp) _).alloc (by simp; omega) _
  refine ⟨?_, ?_, ?_, ?_, hs, b3.alloc b3.size _⟩
  · exact (heap_alloc_old _ _ (by omega)).trans h0
  · exact (heap_alloc_old _ _ (by omega)).trans h1
  · exact (heap_alloc_old _ _ (by omega)).trans h2
  · have h := heap_alloc_new (((w.alloc zM).alloc (.cells #[.string s] 68)).alloc (.cells #[.pointer (some ⟨w.heap.size + 1, 0, none⟩)] 66)) zM
    rw [h3] at h
    exact h

theorem cells5_at {w : World} {g : Nat} {t : TypeId} {c0 c1 c2 c3 c4 : Value} {fr : Nat × Nat} (h : w.heap[g]? = some (.cells #[c0, c1, c2, c3, c4] t fr)) (a b c d e : Value) : (((((w.setCell ⟨g, 0, none⟩ a).setCell ⟨g, 1, none⟩ b).setCell ⟨g, 2, none⟩ c).setCell ⟨g, 3, none⟩ d).setCell ⟨g, 4, none⟩ e).heap[g]? = some (.cells #[a, b, c, d, e] t fr) := by
  simp [World.setCell, Array.getElem?_modify, h]
theorem grown5 {w w1 : World} {row : Option Nat} (h : w.grownBy w1 row) {g : Nat} (hg : w.heap.size ≤ g) (a b c d e : Value) : w.grownBy (((((w1.setCell ⟨g, 0, none⟩ a).setCell ⟨g, 1, none⟩ b).setCell ⟨g, 2, none⟩ c).setCell ⟨g, 3, none⟩ d).setCell ⟨g, 4, none⟩ e) row :=
  grown_new (grown_new (grown_new (grown_new (grown_new h hg 0 a) hg 1 b) hg 2 c) hg 3 d) hg 4 e
set_option maxRecDepth 1000000 in
set_option maxHeartbeats 4000000 in
theorem decode_c {w : World} (s : ByteArray) (hs : s.size ≤ 1073741824) :
    Calls Tryd.prog 26 #[.string s] w (DecPost w s) := by
  have hmf : ∀ (fn : Fn) (first cap : Array Value) (w : World), (Instr.makeFunc fn first cap).run Tryd.prog w = .ok (.func fn first cap) w := fun _ _ _ _ => rfl
  have hen : ∀ args w, (callFunc 47 args).run Tryd.prog w = .ok (.enter 47 args) w := fun args w => enters_of Tryd.func47 (by kernel_rfl) rfl args w
  obtain ⟨g0, g1, g2, g3, g4, gb⟩ := w4_facts w s
  obtain ⟨V, hV⟩ : ∃ V, V = W4 w s := ⟨_, rfl⟩
  rw [← hV] at g0 g1 g2 g3 g4 gb
  obtain ⟨V5, hV5⟩ : ∃ V5, V5 = V.alloc (.cells #[.bool false] 4) := ⟨_, rfl⟩
  have hal : Below V.heap.size V V5 := by rw [hV5]; exact below_al1 _ _
  have hok : V5.heap[V.heap.size]? = some (.cells #[.bool false] 4 (0, 0)) := by rw [hV5]; exact heap_alloc_new V _
  have hs5 : V5.heap.size = w.heap.size + 5 := by rw [hV5, show (V.alloc (.cells #[.bool false] 4)).heap.size = V.heap.size + 1 from Array.size_push _, g4]
  have k1 : RD V5 (w.heap.size + 1) s := (hal.block _ (by omega)).trans g1
  have k2 : V5.heap[w.heap.size + 2]? = _ := (hal.block _ (by omega)).trans g2
  have k3 : MB V5 (w.heap.size + 3) 0 0 (.slice none 0 0) (.slice none 0 0) (.slice none 0 0) := (hal.block _ (by omega)).trans g3
  have hC := decode1_c k1 k3 k2 (by omega) (by omega) (by omega) hs
  have hB5 := gb.trans (hal.mono (by omega))
  have hcl : ∀ w', Two V5 w' (w.heap.size + 1) (w.heap.size + 3) → w'.heap[V.heap.size]? = some (.cells #[.bool false] 4 (0, 0)) := fun w' ht => (ht.block V.heap.size (by omega) (by omega) (by omega)).trans hok
  have hck : ∀ w' : World, w'.heap[V.heap.size]? = some (.cells #[.bool false] 4 (0, 0)) → w'.cell? ⟨V.heap.size, 0, none⟩ = some (.bool false) ∧ w'.frozen? ⟨V.heap.size, 0, none⟩ = false := fun w' h => ⟨by simp [World.cell?, h], by simp [World.frozen?, h]⟩
  cases hd : decP s with
  | none =>
    have hg := guard_no (cap := #[.pointer (some ⟨w.heap.size + 2, 0, none⟩), .pointer (some ⟨w.heap.size + 3, 0, none⟩)]) (w := V) (R := fun w' => Two V5 w' (w.heap.size + 1) (w.heap.size + 3)) hen (by
      rw [← hV5]
      refine hC.mono ?_
      rintro e w' ⟨ht, he⟩
      rw [hd] at he
      exact ⟨he, ht, hck _ (hcl _ ht)⟩)
    have HG := Lib.hid hg
    have HD := Lib.hid hd
    have HB5 := Lib.hid hB5
    have HS5 := Lib.hid hs5
    have HG4 := Lib.hid g4
    have HG0 := Lib.hid (show V5.heap[w.heap.size]? = some zM from (hal.block _ (by omega)).trans g0)
    rw [hV] at HG HG4
    unfold W4 zM at HG HG4
    clear hg hd hB5 hs5 g4 hV hV5 g0 g1 g2 g3 gb hal hok k1 k2 k3 hC hcl hck
    go_enter Tryd.func26, Tryd.ntmps26
    go_wp2_with fail
    refine (HG.out).mono ?_
    rintro e w' ⟨rfl, w1, hT, hw'⟩
    rw [HG4.out] at hw'
    have hz : w'.heap[w.heap.size]? = some zM := by
      rw [hw', Below.heap_setCell _ _ _ _ (show w.heap.size ≠ w.heap.size + 4 by omega), heap_alloc_old _ _ (by have := hT.size; have := HS5.out; omega)]
      exact (hT.block _ (by have := HS5.out; omega) (by omega) (by omega)).trans HG0.out
    have hB : Below w.heap.size w w' := by
      rw [hw']
      have b1 := HB5.out.trans (hT.below (B := w.heap.size) (by omega) (by omega) (by have := HS5.out; omega))
      exact below_set (b1.alloc b1.size _) (by omega) 0 _
    have hB' : w.grownBy w' none := grownBy_below hB none
    have HZ := Lib.hid hz
    have HBB := Lib.hid hB'
    have q0 : w'.cell? ⟨w.heap.size, 0, none⟩ = some (.int .i64 0) := by simp [World.cell?, hz]
    have q1 : w'.cell? ⟨w.heap.size, 1, none⟩ = some (.int .i64 0) := by simp [World.cell?, hz]
    have q2 : w'.cell? ⟨w.heap.size, 2, none⟩ = some (.slice none 0 0) := by simp [World.cell?, hz]
    have q3 : w'.cell? ⟨w.heap.size, 3, none⟩ = some (.slice none 0 0) := by simp [World.cell?, hz]
    have q4 : w'.cell? ⟨w.heap.size, 4, none⟩ = some (.slice none 0 0) := by simp [World.cell?, hz]
    have f0 : w'.frozen? ⟨w.heap.size, 0, none⟩ = false := by simp [World.frozen?, hz]
    have f1 : w'.frozen? ⟨w.heap.size, 1, none⟩ = false := by simp [World.frozen?, hz]
    have f2 : w'.frozen? ⟨w.heap.size, 2, none⟩ = false := by simp [World.frozen?, hz]
    have f3 : w'.frozen? ⟨w.heap.size, 3, none⟩ = false := by simp [World.frozen?, hz]
    have f4 : w'.frozen? ⟨w.heap.size, 4, none⟩ = false := by simp [World.frozen?, hz]
    clear hT hw' hz hB hB'
    go_wp2_with fail
    refine method_end rfl rfl (cells5_at HZ.out _ _ _ _ _) rfl ?_
    exact decpost_no HD.out ⟨(grown5 HBB.out (Nat.le_refl _) _ _ _ _ _).os, (grown5 HBB.out (Nat.le_refl _) _ _ _ _ _).tape, (grown5 HBB.out (Nat.le_refl _) _ _ _ _ _).output, (grown5 HBB.out (Nat.le_refl _) _ _ _ _ _).size, fun k hk => (grown5 HBB.out (Nat.le_refl _) _ _ _ _ _).block k hk (by intro h; cases h)⟩
  | some m =>
    have hg := guard_yes (cap := #[.pointer (some ⟨w.heap.size + 2, 0, none⟩), .pointer (some ⟨w.heap.size + 3, 0, none⟩)]) (w := V) (R := fun w' => Two V5 w' (w.heap.size + 1) (w.heap.size + 3) ∧ ∃ vn vt vp, MB w' (w.heap.size + 3) m.c m.i vn vt vp ∧ w'.ownsRow V5.heap.size 3 1 vn m.ns.length (m.ns.map (Value.int .i64)) ∧ w'.ownsRow V5.heap.size 9 1 vt m.ts.length (m.ts.map Value.string) ∧ OwnP w' V5.heap.size vp m.ps ∧ ∀ k, vn.ownBlock = some k → vp.ownBlock ≠ some k) hen (by
      rw [← hV5]
      refine hC.mono ?_
      rintro e w' ⟨ht, he⟩
      rw [hd] at he
      exact ⟨he.1, ⟨ht, he.2⟩, hck _ (hcl _ ht)⟩)
    have HG := Lib.hid hg
    have HD := Lib.hid hd
    have HB5 := Lib.hid hB5
    have HS5 := Lib.hid hs5
    have HG4 := Lib.hid g4
    have HG0 := Lib.hid (show V5.heap[w.heap.size]? = some zM from (hal.block _ (by omega)).trans g0)
    rw [hV] at HG HG4
    unfold W4 zM at HG HG4
    clear hg hd hB5 hs5 g4 hV hV5 g0 g1 g2 g3 gb hal hok k1 k2 k3 hC hcl hck
    go_enter Tryd.func26, Tryd.ntmps26
    go_wp2_with fail
    refine (HG.out).mono ?_
    rintro e w' ⟨rfl, w1, ⟨hT, vn, vt, vp, hM, hn, ht, hp, hdi⟩, hw'⟩
    rw [HG4.out] at hw'
    have hz : w'.heap[w.heap.size]? = some zM := by
      rw [hw', Below.heap_setCell _ _ _ _ (show w.heap.size ≠ w.heap.size + 4 by omega)]
      exact (hT.block _ (by have := HS5.out; omega) (by omega) (by omega)).trans HG0.out
    have hgr : w1.grownBy w' (some (w.heap.size + 4)) := by rw [hw']; exact grownBy_set _ _ _ _
    have hM' : MB w' (w.heap.size + 3) m.c m.i vn vt vp := blk_kept hM hgr (fun e => by injection e with e; omega)
    have hn' := own_kept hn hgr (fun k e => by injection e with e; rw [← e]; exact own_low hn (by have := HS5.out; omega))
    have ht' := own_kept ht hgr (fun k e => by injection e with e; rw [← e]; exact own_low ht (by have := HS5.out; omega))
    have hp' := ownP_kept hp hgr (fun k e => by injection e with e; rw [← e]; exact ownP_low hp (by have := HS5.out; omega))
    have hB : Below w.heap.size w w' := by
      have b1 := HB5.out.trans (hT.below (B := w.heap.size) (by omega) (by omega) (by have := HS5.out; omega))
      rw [hw']
      exact below_set b1 (by omega) 0 _
    have HN := Lib.hid hn'
    have HT' := Lib.hid ht'
    have HP := Lib.hid hp'
    have HZ := Lib.hid hz
    have HDI := Lib.hid hdi
    have HBB := Lib.hid (grownBy_below hB none)
    obtain ⟨A1, c1, rfl⟩ := rc_any (own_rc hn')
    obtain ⟨A2, c2, rfl⟩ := rc_any (own_rc ht')
    obtain ⟨A3, c3, rfl⟩ := rc_any (ownP_rpr hp')
    obtain ⟨m0, m1, m2, m3, m4⟩ := mb_facts hM'
    have q0 : w'.cell? ⟨w.heap.size, 0, none⟩ = some (.int .i64 0) := by simp [World.cell?, hz]
    have q1 : w'.cell? ⟨w.heap.size, 1, none⟩ = some (.int .i64 0) := by simp [World.cell?, hz]
    have q2 : w'.cell? ⟨w.heap.size, 2, none⟩ = some (.slice none 0 0) := by simp [World.cell?, hz]
    have q3 : w'.cell? ⟨w.heap.size, 3, none⟩ = some (.slice none 0 0) := by simp [World.cell?, hz]
    have q4 : w'.cell? ⟨w.heap.size, 4, none⟩ = some (.slice none 0 0) := by simp [World.cell?, hz]
    have f0 : w'.frozen? ⟨w.heap.size, 0, none⟩ = false := by simp [World.frozen?, hz]
    have f1 : w'.frozen? ⟨w.heap.size, 1, none⟩ = false := by simp [World.frozen?, hz]
    have f2 : w'.frozen? ⟨w.heap.size, 2, none⟩ = false := by simp [World.frozen?, hz]
    have f3 : w'.frozen? ⟨w.heap.size, 3, none⟩ = false := by simp [World.frozen?, hz]
    have f4 : w'.frozen? ⟨w.heap.size, 4, none⟩ = false := by simp [World.frozen?, hz]
    clear hT hw' hz hB hgr hM hM' hn ht hp hn' ht' hp' hdi
    go_wp2_with fail
    refine method_end rfl rfl (cells5_at HZ.out _ _ _ _ _) rfl ?_
    have G5 := grown5 HBB.out (Nat.le_refl _) (.int .i64 m.c) (.int .i64 m.i) (.slice A1 m.ns.length c1) (.slice A2 m.ts.length c2) (.slice A3 m.ps.length c3)
    have hset : ∀ (j : Nat) (u : Value) (X : World), X.grownBy (X.setCell ⟨w.heap.size, j, none⟩ u) (some w.heap.size) := fun j u X => grownBy_set X _ j u
    have hlow : w.heap.size < V5.heap.size := by have := HS5.out; omega
    have kn : ∀ (j : Nat) (u : Value) (X : World), X.ownsRow V5.heap.size 3 1 (.slice A1 m.ns.length c1) m.ns.length (m.ns.map (Value.int .i64)) → (X.setCell ⟨w.heap.size, j, none⟩ u).ownsRow V5.heap.size 3 1 (.slice A1 m.ns.length c1) m.ns.length (m.ns.map (Value.int .i64)) := fun j u X h => own_kept h (hset j u X) (fun k e => by injection e with e; rw [← e]; exact own_low h hlow)
    have kt : ∀ (j : Nat) (u : Value) (X : World), X.ownsRow V5.heap.size 9 1 (.slice A2 m.ts.length c2) m.ts.length (m.ts.map Value.string) → (X.setCell ⟨w.heap.size, j, none⟩ u).ownsRow V5.heap.size 9 1 (.slice A2 m.ts.length c2) m.ts.length (m.ts.map Value.string) := fun j u X h => own_kept h (hset j u X) (fun k e => by injection e with e; rw [← e]; exact own_low h hlow)
    have kp : ∀ (j : Nat) (u : Value) (X : World), OwnP X V5.heap.size (.slice A3 m.ps.length c3) m.ps → OwnP (X.setCell ⟨w.heap.size, j, none⟩ u) V5.heap.size (.slice A3 m.ps.length c3) m.ps := fun j u X h => ownP_kept h (hset j u X) (fun k e => by injection e with e; rw [← e]; exact ownP_low h hlow)
    exact decpost_yes HD.out ⟨G5.os, G5.tape, G5.output, G5.size, fun k hk => G5.block k hk (by intro h; cases h)⟩
      (own_lower (kn 4 _ _ (kn 3 _ _ (kn 2 _ _ (kn 1 _ _ (kn 0 _ _ HN.out))))) (Nat.le_of_lt hlow)) (own_lower (kt 4 _ _ (kt 3 _ _ (kt 2 _ _ (kt 1 _ _ (kt 0 _ _ HT'.out))))) (Nat.le_of_lt hlow)) (ownP_lower (kp 4 _ _ (kp 3 _ _ (kp 2 _ _ (kp 1 _ _ (kp 0 _ _ HP.out))))) (Nat.le_of_lt hlow)) HDI.out
end Go.Proofs.YteigbejidfkhpaaDoor

/- The reference's table, plain laws: insertion one by one. -/
namespace Go.Proofs.YteigbejidfkhpaaDoor
open Go Go.RowKit
set_option linter.unusedSimpArgs false
set_option linter.unusedVariables false

def LtP (a b : Prp) : Prop := a.nm.data.toList < b.nm.data.toList
theorem ltP_irr (a : Prp) : ¬ LtP a a := List.lt_irrefl _
theorem ltP_trans {a b c : Prp} (h : LtP a b) (k : LtP b c) : LtP a c := List.lt_trans h k
/-- Two ascending lists of the same items are one. -/
theorem asc_uniq : ∀ (l m : List Prp), l.Pairwise LtP → m.Pairwise LtP → l.Perm m → l = m
  | [], m, _, _, h => (List.nil_perm.1 h).symm
  | a :: l, [], _, _, h => by have := h.length_eq; simp at this
  | a :: l, b :: m, hl, hm, h => by
    rw [List.pairwise_cons] at hl hm
    have ha : a ∈ b :: m := h.mem_iff.1 (List.mem_cons_self ..)
    have hb : b ∈ a :: l := h.mem_iff.2 (List.mem_cons_self ..)
    have e : a = b := by
      rcases List.mem_cons.1 ha with e | ha
      · exact e
      · rcases List.mem_cons.1 hb with e | hb
        · exact e.symm
        · exact absurd (ltP_trans (hl.1 b hb) (hm.1 a ha)) (ltP_irr a)
    subst e
    rw [asc_uniq l m hl.2 hm.2 ((List.perm_cons a).1 h)]
/-- One more, at its place. -/
def insP (p : Prp) : List Prp → List Prp
  | [] => [p]
  | x :: r => if Go.Op.bytesLess p.nm.toList x.nm.toList = true then p :: x :: r else x :: insP p r
theorem insP_perm (p : Prp) : ∀ l, (insP p l).Perm (p :: l)
  | [] => List.Perm.refl _
  | x :: r => by
    unfold insP
    split
    · exact List.Perm.refl _
    · exact ((insP_perm p r).cons x).trans (List.Perm.swap p x r)
theorem lt_total {a b : ByteArray} (h : ¬ a.data.toList < b.data.toList) (hn : a ≠ b) : b.data.toList < a.data.toList := by
  rcases Decidable.em (b.data.toList < a.data.toList) with k | k
  · exact k
  · exact absurd (ba_ext (List.le_antisymm (List.not_lt.1 k) (List.not_lt.1 h))) hn
theorem insP_asc (p : Prp) : ∀ l, l.Pairwise LtP → (∀ x ∈ l, x.nm ≠ p.nm) → (insP p l).Pairwise LtP
  | [], _, _ => by simp [insP]
  | x :: r, h, hd => by
    rw [List.pairwise_cons] at h
    unfold insP
    split
    · rename_i hl
      rw [less_iff] at hl
      rw [List.pairwise_cons]
      refine ⟨fun y hy => ?_, List.pairwise_cons.2 h⟩
      rcases List.mem_cons.1 hy with rfl | hy
      · exact hl
      · exact ltP_trans hl (h.1 y hy)
    · rename_i hl
      rw [less_iff] at hl
      rw [List.pairwise_cons]
      refine ⟨fun y hy => ?_, insP_asc p r h.2 (fun y hy => hd y (List.mem_cons_of_mem _ hy))⟩
      rcases List.mem_cons.1 ((insP_perm p r).mem_iff.1 hy) with rfl | hy
      · exact lt_total hl (fun e => hd x (List.mem_cons_self ..) e.symm)
      · exact h.1 y hy
/-- A sorted list whose names are not the same ascends. -/
theorem sortP_asc (l : List Prp) (hd : l.Pairwise (fun a b => a.nm ≠ b.nm)) : (sortP l).Pairwise LtP := by
  have hp := sortP_perm l
  have hd2 : (sortP l).Pairwise (fun a b => a.nm ≠ b.nm) := (hp.pairwise_iff (fun h => Ne.symm h)).2 hd
  have hs := (Go.Sort.insertionSort_holds ltP_swo l.toArray 0 l.length (Nat.zero_le _) (by simp)).2
  have hlen : (sortP l).length = l.length := hp.length_eq
  rw [List.pairwise_iff_getElem] at hd2 ⊢
  intro i j hi hj hij
  have h := hs i j (Nat.zero_le _) hij (by omega)
  have e : ∀ k (hk : k < (sortP l).length), (Sort.insertionSort (ltOf cfP) l.toArray 0 l.length)[k]! = (sortP l)[k] := by
    intro k hk
    have hk' : k < (Sort.insertionSort (ltOf cfP) l.toArray 0 l.length).size := by
      have : (sortP l).length = (Sort.insertionSort (ltOf cfP) l.toArray 0 l.length).size := by unfold sortP; exact Array.length_toList
      omega
    rw [getElem!_pos _ k hk']
    rfl
  rw [e j hj, e i hi, ltP_no] at h
  exact lt_total h (Ne.symm (hd2 i j hi hj hij))
end Go.Proofs.YteigbejidfkhpaaDoor

/- The reference's table, plain laws: insertion with duplicates told is the sorted list. -/
namespace Go.Proofs.YteigbejidfkhpaaDoor
open Go Go.RowKit
set_option linter.unusedSimpArgs false
set_option linter.unusedVariables false

theorem valid_asc : ∀ (ps : List Prp) (o : Option ByteArray), validL o ps = true → ps.Pairwise LtP ∧ ∀ q, o = some q → ∀ x ∈ ps, q.data.toList < x.nm.data.toList
  | [], _, _ => ⟨List.Pairwise.nil, fun _ _ _ h => by cases h⟩
  | p :: r, o, h => by
    have hr : validL (some p.nm) r = true := by
      cases o <;> (unfold validL at h; simp only [Bool.and_eq_true] at h; exact h.2)
    obtain ⟨h1, h2⟩ := valid_asc r _ hr
    refine ⟨List.pairwise_cons.2 ⟨fun x hx => h2 _ rfl x hx, h1⟩, fun q hq x hx => ?_⟩
    subst hq
    have hqp : q.data.toList < p.nm.data.toList := by
      unfold validL at h
      simp only [Bool.and_eq_true] at h
      exact (less_iff _ _).1 h.1.2
    rcases List.mem_cons.1 hx with rfl | hx
    · exact hqp
    · exact List.lt_trans hqp (h2 _ rfl x hx)
theorem validB_asc {ps : List Prp} (h : validB ps = true) : ps.Pairwise LtP ∧ ps.length ≤ 16 := by
  unfold validB at h
  simp only [Bool.and_eq_true, decide_eq_true_eq] at h
  exact ⟨(valid_asc ps none h.1).1, h.2⟩
theorem asc_ne {ps : List Prp} (h : ps.Pairwise LtP) : ps.Pairwise (fun a b => a.nm ≠ b.nm) := h.imp fun {a b} k e => by
  unfold LtP at k
  rw [e] at k
  exact List.lt_irrefl _ k
def freshB (p : Prp) (out : List Prp) : Bool := out.all fun x => decide (x.nm ≠ p.nm)
/-- The items, one by one: none where a name comes twice, or one more would follow on seventeen. -/
def insAll : List Prp → List Prp → Option (List Prp)
  | [], out => some out
  | p :: r, out => if freshB p out = true ∧ out.length ≤ 16 then insAll r (insP p out) else none
theorem fresh_of {p : Prp} {out : List Prp} (h : freshB p out = true) : ∀ x ∈ out, x.nm ≠ p.nm := fun x hx => of_decide_eq_true (List.all_eq_true.1 h x hx)
theorem mid_perm (p : Prp) (out r : List Prp) : (insP p out ++ r).Perm (out ++ p :: r) :=
  ((insP_perm p out).append_right r).trans List.perm_middle.symm
theorem insAll_some : ∀ (l out o : List Prp), insAll l out = some o → out.Pairwise LtP → o.Pairwise LtP ∧ o.Perm (out ++ l)
  | [], out, o, h, ha => by
    injection h with h
    subst h
    exact ⟨ha, by simp⟩
  | p :: r, out, o, h, ha => by
    unfold insAll at h
    split at h
    · rename_i hf
      obtain ⟨h1, h2⟩ := insAll_some r _ o h (insP_asc p out ha (fresh_of hf.1))
      exact ⟨h1, h2.trans (mid_perm p out r)⟩
    · cases h
theorem insAll_none : ∀ (l out : List Prp), insAll l out = none → out.Pairwise LtP → (out ++ l).Pairwise (fun a b => a.nm ≠ b.nm) → 17 < (out ++ l).length
  | [], out, h, _, _ => by cases h
  | p :: r, out, h, ha, hn => by
    unfold insAll at h
    by_cases hf : freshB p out = true ∧ out.length ≤ 16
    · rw [if_pos hf] at h
      have := insAll_none r _ h (insP_asc p out ha (fresh_of hf.1)) (((mid_perm p out r).pairwise_iff (fun h => Ne.symm h)).2 hn)
      rw [(mid_perm p out r).length_eq] at this
      exact this
    · have hfr : freshB p out = true := by
        unfold freshB
        rw [List.all_eq_true]
        intro x hx
        rw [List.pairwise_append] at hn
        exact decide_eq_true (hn.2.2 x hx p (List.mem_cons_self ..))
      have : ¬ out.length ≤ 16 := fun k => hf ⟨hfr, k⟩
      rw [List.length_append, List.length_cons]
      omega
theorem refTab_eq (l : List Prp) : ((insAll l []).bind fun o => if validB o = true then some o else none) = tabP l := by
  unfold tabP
  by_cases hv : validB (sortP l) = true
  · obtain ⟨h1, h2⟩ := validB_asc hv
    have hlen := (sortP_perm l).length_eq
    rw [if_pos ⟨by omega, hv⟩]
    have hn : l.Pairwise (fun a b => a.nm ≠ b.nm) := ((sortP_perm l).pairwise_iff (fun h => Ne.symm h)).1 (asc_ne h1)
    cases hi : insAll l [] with
    | none =>
      have := insAll_none l [] hi List.Pairwise.nil hn
      rw [List.nil_append] at this
      omega
    | some o =>
      obtain ⟨k1, k2⟩ := insAll_some l [] o hi List.Pairwise.nil
      have e : o = sortP l := asc_uniq _ _ k1 h1 (k2.trans (sortP_perm l).symm)
      rw [Option.bind_some, e, if_pos hv]
  · rw [if_neg (fun h => hv h.2)]
    cases hi : insAll l [] with
    | none => rfl
    | some o =>
      obtain ⟨k1, k2⟩ := insAll_some l [] o hi List.Pairwise.nil
      have k2' : o.Perm l := k2
      have hn : l.Pairwise (fun a b => a.nm ≠ b.nm) := (k2'.pairwise_iff (fun h => Ne.symm h)).1 (asc_ne k1)
      have e : o = sortP l := asc_uniq _ _ k1 (sortP_asc l hn) (k2'.trans (sortP_perm l).symm)
      rw [Option.bind_some, e, if_neg hv]
/-- What the reference's loop makes of bytes, behind the items that it has. -/
def refIn (s : ByteArray) (out : List Prp) : Option (List Prp) := (itemsP s.size s).bind fun l => insAll l out
theorem refIn_end {s : ByteArray} (h : s.size = 0) (out : List Prp) : refIn s out = some out := by
  unfold refIn
  rw [itemsP_nil h]
  rfl
theorem refIn_bad {s : ByteArray} (h : s.size ≠ 0) (hi : itemP s = none) (out : List Prp) : refIn s out = none := by
  unfold refIn
  rw [itemsP_step h, hi]
  rfl
theorem refIn_step {s r : ByteArray} {p : Prp} (h : s.size ≠ 0) (hi : itemP s = some (p, r)) (out : List Prp) : refIn s out = if freshB p out = true ∧ out.length ≤ 16 then refIn r (insP p out) else none := by
  unfold refIn
  rw [itemsP_step h, hi, Option.bind_some]
  dsimp only
  cases hl : itemsP r.size r with
  | none => simp
  | some l => rfl
theorem tableP_ref (s : ByteArray) : tableP s = (longP s).bind fun p => ((refIn p.1 []).bind fun o => if validB o = true then some o else none).map fun l => (l, p.2) := by
  unfold tableP
  cases longP s with
  | none => rfl
  | some p =>
    rw [Option.bind_some, Option.bind_some]
    congr 1
    unfold refIn
    cases itemsP p.1.size p.1 with
    | none => rfl
    | some l => rw [Option.bind_some, Option.bind_some, refTab_eq]
end Go.Proofs.YteigbejidfkhpaaDoor

/- The reference s reader. -/
namespace Go.Proofs.YteigbejidfkhpaaDoor
open Go Go.RowKit
set_option linter.unusedSimpArgs false
set_option linter.unusedVariables false

/-- Block R is a reader of s. -/
def RR (w : World) (R : Nat) (s : ByteArray) (bad : Bool) : Prop := w.heap[R]? = some (.cells #[.string s, .bool bad] 73 (0, 0))
theorem rr_facts {w : World} {R : Nat} {s : ByteArray} {bad : Bool} (h : RR w R s bad) :
    w.cell? ⟨R, 0, none⟩ = some (.string s) ∧ w.cell? ⟨R, 1, none⟩ = some (.bool bad) ∧ w.frozen? ⟨R, 0, none⟩ = false ∧ w.frozen? ⟨R, 1, none⟩ = false := by
  refine ⟨?_, ?_, ?_, ?_⟩ <;> simp [World.cell?, World.frozen?, show w.heap[R]? = _ from h]
theorem rr_set0 {w : World} {R : Nat} {s : ByteArray} {bad : Bool} (h : RR w R s bad) (s' : ByteArray) : RR (w.setCell ⟨R, 0, none⟩ (.string s')) R s' bad := by
  unfold RR at h ⊢
  simp [World.setCell, Array.getElem?_modify, h]
theorem rr_set1 {w : World} {R : Nat} {s : ByteArray} {bad : Bool} (h : RR w R s bad) (b' : Bool) : RR (w.setCell ⟨R, 1, none⟩ (.bool b')) R s b' := by
  unfold RR at h ⊢
  simp [World.setCell, Array.getElem?_modify, h]

/-- What Take answers, what is left. -/
def tkOk (n : Int) (s : ByteArray) (bad : Bool) : Bool := !bad && decide (0 ≤ n) && decide (n ≤ s.size)
def tkOut (n : Int) (s : ByteArray) (bad : Bool) : ByteArray := if tkOk n s bad = true then s.extract 0 n.toNat else ByteArray.empty
def tkS (n : Int) (s : ByteArray) (bad : Bool) : ByteArray := if tkOk n s bad = true then s.extract n.toNat s.size else s
def tkBad (n : Int) (s : ByteArray) (bad : Bool) : Bool := !tkOk n s bad

def TkPost (w : World) (R : Nat) (v : Value) (s : ByteArray) (bad : Bool) (e : Ending) (w' : World) : Prop :=
  e = .returned v ∧ RR w' R s bad ∧ w.grownBy w' (some R)

set_option maxRecDepth 1000000 in
set_option maxHeartbeats 2000000 in
theorem refTake_c {w : World} {R : Nat} {s : ByteArray} {bad : Bool} (h : RR w R s bad) (n : Int) :
    Calls Tryd.prog 68 #[.pointer (some ⟨R, 0, none⟩), .int .i64 n] w (TkPost w R (.string (tkOut n s bad)) (tkS n s bad) (tkBad n s bad)) := by
  obtain ⟨c0, c1, f0, f1⟩ := rr_facts h
  have H := Lib.hid h
  clear h
  cases bad with
  | true =>
    have e1 : tkOut n s true = ByteArray.empty := rfl
    have e2 : tkS n s true = s := rfl
    have e3 : tkBad n s true = true := rfl
    rw [e1, e2, e3]
    clear e1 e2 e3
    go_enter Tryd.func68, Tryd.ntmps68
    go_wp2
    go_ret
    exact ⟨rfl, rr_set1 H.out true, grownBy_set _ R 1 _⟩
  | false =>
    by_cases h0 : n < 0
    · have e0 : tkOk n s false = false := by unfold tkOk; simp; omega
      rw [tkOut, tkS, tkBad, e0]
      clear e0
      go_enter Tryd.func68, Tryd.ntmps68
      go_wp2
      go_ret
      exact ⟨rfl, rr_set1 H.out true, grownBy_set _ R 1 _⟩
    · have h0' : 0 ≤ n := by omega
      by_cases h1 : (s.size : Int) < n
      · have e0 : tkOk n s false = false := by unfold tkOk; simp; omega
        rw [tkOut, tkS, tkBad, e0]
        clear e0 h0
        go_enter Tryd.func68, Tryd.ntmps68
        go_wp2
        go_ret
        exact ⟨rfl, rr_set1 H.out true, grownBy_set _ R 1 _⟩
      · have e0 : tkOk n s false = true := by unfold tkOk; simp; omega
        have h1' : n ≤ s.size := by omega
        have ht : n.toNat ≤ s.size := by omega
        rw [tkOut, tkS, tkBad, e0, if_pos rfl, if_pos rfl]
        clear e0 h0 h1
        go_enter Tryd.func68, Tryd.ntmps68
        go_wp2
        go_ret
        exact ⟨rfl, rr_set0 H.out _, grownBy_set _ R 0 _⟩

theorem tkOut_size (n : Int) (s : ByteArray) (bad : Bool) (k : Nat) (h : n ≤ k) : (tkOut n s bad).size ≤ k := by
  unfold tkOut
  split
  · rw [ByteArray.size_extract]; omega
  · exact Nat.zero_le _

set_option maxRecDepth 1000000 in
set_option maxHeartbeats 2000000 in
theorem refNumber_c {w : World} {R : Nat} {s : ByteArray} {bad : Bool} (h : RR w R s bad) (n : Int) (hn : n ≤ 8) :
    Calls Tryd.prog 52 #[.pointer (some ⟨R, 0, none⟩), .int .i64 n] w (TkPost w R (.int .u64 (natB (tkOut n s bad).data.toList)) (tkS n s bad) (tkBad n s bad)) := by
  have HT := Lib.hid (refTake_c h n)
  have hx := tkOut_size n s bad 8 hn
  obtain ⟨x, hxe⟩ : ∃ x, x = tkOut n s bad := ⟨_, rfl⟩
  rw [← hxe] at HT hx
  rw [← hxe]
  clear hxe h
  have hsl : x.data.toList.length = x.size := by rw [Array.length_toList]; rfl
  have HSL := Lib.hid hsl
  clear hsl
  go_enter Tryd.func52, Tryd.ntmps52
  go_wp2_with fail
  refine (HT.out).mono ?_
  rintro e w1 ⟨rfl, r1, g1⟩
  have R1 := Lib.hid r1
  have G1 := Lib.hid g1
  clear r1 g1
  go_wp2
  go_loop [6, 7] (fun a i => ∃ k : Nat, k ≤ x.size ∧ i = .int .i64 k ∧ a = .int .u64 (natB (x.data.toList.take k))) (fun _ i => x.size - (intOf i).toNat)
  case atStart => exact ⟨0, Nat.zero_le _, rfl, rfl⟩
  case round =>
    obtain ⟨k, hk, rfl, rfl⟩ := hrel
    by_cases hlt : k < x.size
    · have hlt' : (k : Int) < x.size := by omega
      have hz : natB (x.data.toList.take k) < 256 ^ 7 := by
        refine Nat.lt_of_lt_of_le (natB_lt _) (Nat.pow_le_pow_right (by omega) ?_)
        rw [List.length_take]; omega
      have hb := UInt8.toNat_lt x[k]
      obtain ⟨z, hze⟩ : ∃ z, z = natB (x.data.toList.take k) := ⟨_, rfl⟩
      have hnx : natB (x.data.toList.take (k + 1)) = z * 256 + x[k].toNat := by
        rw [List.take_add_one, ba_at x k hlt, hze]
        exact natB_snoc _ _
      have HNX := Lib.hid hnx
      rw [← hze] at hz ⊢
      clear hnx hze
      have h256 : (256 : Nat) ^ 7 = 72057594037927936 := by decide
      rw [h256] at hz
      clear h256
      have hz1 : (z : Int) * 256 ≤ 18446744073709551360 := by omega
      have hz2 : (z : Int) * 256 + (x[k].toNat : Int) ≤ 18446744073709551615 := by omega
      have hz3 : (z : Int) < 72057594037927936 := by omega
      have hb3 : (x[k].toNat : Int) < 256 := by omega
      clear hz hb
      go_wp2

      go_round
      case rel => exact ⟨k + 1, by omega, by go_num, by rw [HNX.out, Int.natCast_add, Int.natCast_mul]; rfl⟩
      case measure => simp [intOf]; omega
    · have hd : x.data.toList.take k = x.data.toList := List.take_of_length_le (by have := HSL.out; omega)
      rw [hd]
      go_wp2
      go_ret
      exact ⟨rfl, R1.out, G1.out⟩


/-- Block R is a reader of what is left; none: something was not there. -/
def RX (w : World) (R : Nat) : Option ByteArray → Prop
  | some s => RR w R s false
  | none => ∃ s, RR w R s true
def outX {X : Type} (d : X) : Option (X × ByteArray) → X
  | some p => p.1
  | none => d
def leftX {X : Type} (o : Option (X × ByteArray)) : Option ByteArray := o.map (·.2)
def XPost {X : Type} (w : World) (R : Nat) (f : X → Value) (d : X) (o : Option (X × ByteArray)) (e : Ending) (w' : World) : Prop :=
  e = .returned (f (outX d o)) ∧ RX w' R (leftX o) ∧ w.grownBy w' (some R)
theorem xTake_c {w : World} {R : Nat} {o : Option ByteArray} (h : RX w R o) (n : Nat) (ni : Int) (hni : ni = n) :
    Calls Tryd.prog 68 #[.pointer (some ⟨R, 0, none⟩), .int .i64 ni] w (XPost w R Value.string ByteArray.empty (o.bind (takeP n))) := by
  subst hni
  cases o with
  | none =>
    obtain ⟨s, h⟩ := h
    refine (refTake_c h n).mono ?_
    rintro e w' ⟨he, hr, hg⟩
    exact ⟨he, ⟨s, hr⟩, hg⟩
  | some s =>
    refine (refTake_c h n).mono ?_
    rintro e w' ⟨he, hr, hg⟩
    show XPost w R Value.string ByteArray.empty (takeP n s) e w'
    by_cases hn : n ≤ s.size
    · have e0 : tkOk n s false = true := by unfold tkOk; simp; omega
      have e1 : takeP n s = some (s.extract 0 n, s.extract n s.size) := by unfold takeP; rw [if_pos hn]
      rw [tkOut, e0, if_pos rfl] at he
      rw [tkS, tkBad, e0, if_pos rfl] at hr
      rw [e1]
      exact ⟨he, hr, hg⟩
    · have e0 : tkOk n s false = false := by unfold tkOk; simp; omega
      have e1 : takeP n s = none := by unfold takeP; rw [if_neg hn]
      rw [tkOut, e0, if_neg (by decide)] at he
      rw [tkS, tkBad, e0, if_neg (by decide)] at hr
      rw [e1]
      exact ⟨he, ⟨s, hr⟩, hg⟩
theorem xNumber_c {w : World} {R : Nat} {o : Option ByteArray} (h : RX w R o) (n : Nat) (hn8 : n ≤ 8) (ni : Int) (hni : ni = n) :
    Calls Tryd.prog 52 #[.pointer (some ⟨R, 0, none⟩), .int .i64 ni] w (XPost w R (fun k : Nat => Value.int .u64 k) 0 (o.bind (numP n))) := by
  subst hni
  cases o with
  | none =>
    obtain ⟨s, h⟩ := h
    refine (refNumber_c h n (by omega)).mono ?_
    rintro e w' ⟨he, hr, hg⟩
    exact ⟨he, ⟨s, hr⟩, hg⟩
  | some s =>
    refine (refNumber_c h n (by omega)).mono ?_
    rintro e w' ⟨he, hr, hg⟩
    show XPost w R (fun k : Nat => Value.int .u64 k) 0 (numP n s) e w'
    by_cases hn : n ≤ s.size
    · have e0 : tkOk n s false = true := by unfold tkOk; simp; omega
      have e1 : numP n s = some (natB (s.extract 0 n).data.toList, s.extract n s.size) := by unfold numP takeP; rw [if_pos hn]; rfl
      rw [tkOut, e0, if_pos rfl] at he
      rw [tkS, tkBad, e0, if_pos rfl] at hr
      rw [e1]
      exact ⟨he, hr, hg⟩
    · have e0 : tkOk n s false = false := by unfold tkOk; simp; omega
      have e1 : numP n s = none := by unfold numP takeP; rw [if_neg hn]; rfl
      rw [tkOut, e0, if_neg (by decide)] at he
      rw [tkS, tkBad, e0, if_neg (by decide)] at hr
      rw [e1]
      exact ⟨he, ⟨s, hr⟩, hg⟩
theorem grown_trans {w w1 w2 : World} {R : Nat} (h1 : w.grownBy w1 (some R)) (h2 : w1.grownBy w2 (some R)) : w.grownBy w2 (some R) := h1.trans h2
end Go.Proofs.YteigbejidfkhpaaDoor

/- The reference's reader: short and long texts; numbers with their sign. -/
namespace Go.Proofs.YteigbejidfkhpaaDoor
open Go Go.RowKit
set_option linter.unusedSimpArgs false
set_option linter.unusedVariables false

theorem bind_num {o : Option ByteArray} {k n : Nat} {r : ByteArray} (h : o.bind (numP k) = some (n, r)) : n < 256 ^ k := by
  cases o with
  | none => cases h
  | some s => exact numP_lt h

theorem bind_shortP (o : Option ByteArray) : o.bind shortP = (o.bind (numP 1)).bind fun p => takeP p.1 p.2 := by cases o <;> rfl
set_option maxRecDepth 100000 in
set_option maxHeartbeats 1000000 in
theorem xShort_c {w : World} {R : Nat} {o : Option ByteArray} (h : RX w R o) :
    Calls Tryd.prog 53 #[.pointer (some ⟨R, 0, none⟩)] w (XPost w R Value.string ByteArray.empty (o.bind shortP)) := by
  have HN := Lib.hid (xNumber_c h 1 (by omega) 1 rfl)
  rw [bind_shortP]
  clear h
  cases hy : o.bind (numP 1) with
  | none =>
    rw [hy] at HN
    clear hy
    go_enter Tryd.func53, Tryd.ntmps53
    go_wp2_with fail
    refine (HN.out).mono ?_
    rintro e w1 ⟨rfl, r1, g1⟩
    have HT := Lib.hid (xTake_c (o := none) r1 0 0 rfl)
    have hz : outX 0 (none : Option (Nat × ByteArray)) = 0 := rfl
    clear r1
    go_wp2_with fail
    refine (HT.out).mono ?_
    rintro e w2 ⟨rfl, r2, g2⟩
    go_wp2_with fail
    go_ret
    exact ⟨rfl, r2, g1.trans g2⟩
  | some q =>
    obtain ⟨n, r⟩ := q
    have hn := bind_num hy
    rw [hy] at HN
    have hw : IntKind.i64.wrap (n : Int) = (n : Int) := IntWalk.i64_in _ (by omega)
    have hz : outX 0 (some (n, r)) = n := rfl
    clear hy hn
    go_enter Tryd.func53, Tryd.ntmps53
    go_wp2_with fail
    refine (HN.out).mono ?_
    rintro e w1 ⟨rfl, r1, g1⟩
    have HT := Lib.hid (xTake_c (o := some r) r1 n n rfl)
    clear r1
    go_wp2_with fail
    refine (HT.out).mono ?_
    rintro e w2 ⟨rfl, r2, g2⟩
    go_wp2_with fail
    go_ret
    exact ⟨rfl, r2, g1.trans g2⟩

theorem bind_longP (o : Option ByteArray) : o.bind longP = (o.bind (numP 4)).bind fun p => takeP p.1 p.2 := by cases o <;> rfl
set_option maxRecDepth 100000 in
set_option maxHeartbeats 1000000 in
theorem xLong_c {w : World} {R : Nat} {o : Option ByteArray} (h : RX w R o) :
    Calls Tryd.prog 54 #[.pointer (some ⟨R, 0, none⟩)] w (XPost w R Value.string ByteArray.empty (o.bind longP)) := by
  have HN := Lib.hid (xNumber_c h 4 (by omega) 4 rfl)
  rw [bind_longP]
  clear h
  cases hy : o.bind (numP 4) with
  | none =>
    rw [hy] at HN
    clear hy
    go_enter Tryd.func54, Tryd.ntmps54
    go_wp2_with fail
    refine (HN.out).mono ?_
    rintro e w1 ⟨rfl, r1, g1⟩
    have HT := Lib.hid (xTake_c (o := none) r1 0 0 rfl)
    have hz : outX 0 (none : Option (Nat × ByteArray)) = 0 := rfl
    clear r1
    go_wp2_with fail
    refine (HT.out).mono ?_
    rintro e w2 ⟨rfl, r2, g2⟩
    go_wp2_with fail
    go_ret
    exact ⟨rfl, r2, g1.trans g2⟩
  | some q =>
    obtain ⟨n, r⟩ := q
    have hn := bind_num hy
    rw [hy] at HN
    have hw : IntKind.i64.wrap (n : Int) = (n : Int) := IntWalk.i64_in _ (by omega)
    have hz : outX 0 (some (n, r)) = n := rfl
    clear hy hn
    go_enter Tryd.func54, Tryd.ntmps54
    go_wp2_with fail
    refine (HN.out).mono ?_
    rintro e w1 ⟨rfl, r1, g1⟩
    have HT := Lib.hid (xTake_c (o := some r) r1 n n rfl)
    clear r1
    go_wp2_with fail
    refine (HT.out).mono ?_
    rintro e w2 ⟨rfl, r2, g2⟩
    go_wp2_with fail
    go_ret
    exact ⟨rfl, r2, g1.trans g2⟩

set_option maxRecDepth 100000 in
set_option maxHeartbeats 1000000 in
theorem signed8_c {w : World} (n : Nat) (hn : n < 256) :
    Calls Tryd.prog 74 #[.int .u64 n, .int .u64 8] w fun e w' => e = .returned (.int .i64 (sgn 8 n)) ∧ w = w' := by
  have hw : IntKind.i64.wrap (n : Int) = (n : Int) := IntWalk.i64_in _ (by omega)
  by_cases h : n < 128
  · have e : sgn 8 n = (n : Int) := by unfold sgn; rw [if_pos h]
    have h' : (n : Int) < 128 := by omega
    rw [e]
    obtain ⟨N, hN⟩ : ∃ N : Int, N = (n : Int) := ⟨_, rfl⟩
    rw [← hN] at h' hw ⊢
    clear e h hn hN
    go_enter Tryd.func74, Tryd.ntmps74
    go_wp2_with fail
    go_ret
    exact ⟨rfl, rfl⟩
  · have e : sgn 8 n = (n : Int) - 256 := by unfold sgn; rw [if_neg h]; rfl
    have h' : (128 : Int) ≤ n := by omega
    have hs : IntKind.i64.wrap ((n : Int) - 256) = (n : Int) - 256 := IntWalk.i64_in _ (by omega)
    rw [e]
    obtain ⟨N, hN⟩ : ∃ N : Int, N = (n : Int) := ⟨_, rfl⟩
    rw [← hN] at h' hs hw ⊢
    obtain ⟨z, hz⟩ : ∃ z : Int, z = N - 256 := ⟨_, rfl⟩
    have hs2 : IntKind.i64.wrap (N - 256) = z := hs.trans hz.symm
    rw [← hz]
    clear e h hn hN hs hz
    go_enter Tryd.func74, Tryd.ntmps74
    go_upto_region 2 with fail
    clear h'
    go_wp2_with fail
    go_ret
    exact ⟨rfl, rfl⟩

set_option maxRecDepth 100000 in
set_option maxHeartbeats 1000000 in
theorem signed16_c {w : World} (n : Nat) (hn : n < 65536) :
    Calls Tryd.prog 74 #[.int .u64 n, .int .u64 16] w fun e w' => e = .returned (.int .i64 (sgn 16 n)) ∧ w = w' := by
  have hw : IntKind.i64.wrap (n : Int) = (n : Int) := IntWalk.i64_in _ (by omega)
  by_cases h : n < 32768
  · have e : sgn 16 n = (n : Int) := by unfold sgn; rw [if_pos h]
    have h' : (n : Int) < 32768 := by omega
    rw [e]
    obtain ⟨N, hN⟩ : ∃ N : Int, N = (n : Int) := ⟨_, rfl⟩
    rw [← hN] at h' hw ⊢
    clear e h hn hN
    go_enter Tryd.func74, Tryd.ntmps74
    go_wp2_with fail
    go_ret
    exact ⟨rfl, rfl⟩
  · have e : sgn 16 n = (n : Int) - 65536 := by unfold sgn; rw [if_neg h]; rfl
    have h' : (32768 : Int) ≤ n := by omega
    have hs : IntKind.i64.wrap ((n : Int) - 65536) = (n : Int) - 65536 := IntWalk.i64_in _ (by omega)
    rw [e]
    obtain ⟨N, hN⟩ : ∃ N : Int, N = (n : Int) := ⟨_, rfl⟩
    rw [← hN] at h' hs hw ⊢
    obtain ⟨z, hz⟩ : ∃ z : Int, z = N - 65536 := ⟨_, rfl⟩
    have hs2 : IntKind.i64.wrap (N - 65536) = z := hs.trans hz.symm
    rw [← hz]
    clear e h hn hN hs hz
    go_enter Tryd.func74, Tryd.ntmps74
    go_upto_region 2 with fail
    clear h'
    go_wp2_with fail
    go_ret
    exact ⟨rfl, rfl⟩

set_option maxRecDepth 100000 in
set_option maxHeartbeats 1000000 in
theorem signed32_c {w : World} (n : Nat) (hn : n < 4294967296) :
    Calls Tryd.prog 74 #[.int .u64 n, .int .u64 32] w fun e w' => e = .returned (.int .i64 (sgn 32 n)) ∧ w = w' := by
  have hw : IntKind.i64.wrap (n : Int) = (n : Int) := IntWalk.i64_in _ (by omega)
  by_cases h : n < 2147483648
  · have e : sgn 32 n = (n : Int) := by unfold sgn; rw [if_pos h]
    have h' : (n : Int) < 2147483648 := by omega
    rw [e]
    obtain ⟨N, hN⟩ : ∃ N : Int, N = (n : Int) := ⟨_, rfl⟩
    rw [← hN] at h' hw ⊢
    clear e h hn hN
    go_enter Tryd.func74, Tryd.ntmps74
    go_wp2_with fail
    go_ret
    exact ⟨rfl, rfl⟩
  · have e : sgn 32 n = (n : Int) - 4294967296 := by unfold sgn; rw [if_neg h]; rfl
    have h' : (2147483648 : Int) ≤ n := by omega
    have hs : IntKind.i64.wrap ((n : Int) - 4294967296) = (n : Int) - 4294967296 := IntWalk.i64_in _ (by omega)
    rw [e]
    obtain ⟨N, hN⟩ : ∃ N : Int, N = (n : Int) := ⟨_, rfl⟩
    rw [← hN] at h' hs hw ⊢
    obtain ⟨z, hz⟩ : ∃ z : Int, z = N - 4294967296 := ⟨_, rfl⟩
    have hs2 : IntKind.i64.wrap (N - 4294967296) = z := hs.trans hz.symm
    rw [← hz]
    clear e h hn hN hs hz
    go_enter Tryd.func74, Tryd.ntmps74
    go_upto_region 2 with fail
    clear h'
    go_wp2_with fail
    go_ret
    exact ⟨rfl, rfl⟩

set_option maxRecDepth 100000 in
set_option maxHeartbeats 1000000 in
theorem signed64_c {w : World} (n : Nat) (hn : n < 18446744073709551616) :
    Calls Tryd.prog 74 #[.int .u64 n, .int .u64 64] w fun e w' => e = .returned (.int .i64 (sgn 64 n)) ∧ w = w' := by
  have hw : IntKind.i64.wrap (n : Int) = sgn 64 n := by
    rw [IntKind.wrap_i64]
    unfold sgn
    rw [show (2 ^ (64 - 1) : Nat) = 9223372036854775808 from rfl, show (2 ^ 64 : Int) = 18446744073709551616 from rfl]
    split <;> omega
  obtain ⟨z, hz⟩ : ∃ z, z = sgn 64 n := ⟨_, rfl⟩
  rw [← hz] at hw ⊢
  obtain ⟨N, hN⟩ : ∃ N : Int, N = (n : Int) := ⟨_, rfl⟩
  rw [← hN] at hw ⊢
  clear hz hn hN
  go_enter Tryd.func74, Tryd.ntmps74
  go_wp2_with fail
  go_ret
  exact ⟨by first | rfl | (rw [← hw]; rfl) | (simp [hw]; done), rfl⟩
end Go.Proofs.YteigbejidfkhpaaDoor

/- The reference's Widen. -/
namespace Go.Proofs.YteigbejidfkhpaaDoor
open Go Go.RowKit
set_option linter.unusedSimpArgs false
set_option linter.unusedVariables false

theorem to64_nan2 {f : Nat} {s : Bool} {t : Nat} (h : Ieee.single.read f = .nan s t) (w : World) :
    ∃ b, (convert 95 41 (.float .f32 f)).run Tryd.prog w = .ok (.float .f64 b) w.drew ∧ nanB b = true ∧ b < 18446744073709551616 := by
  have h' : FloatKind.f32.decode f = .nan s t := h
  have u1 := Tryd.underlying41
  have u2 := Tryd.underlying95
  refine ⟨(Question.nanConv .f64 f).cut (w.tape w.drawn (.nanConv .f64 f)), ?_, ?_, ?_⟩
  · simp [convert, run_underlying u1, run_underlying u2, Conv.floatToFloat, h', Question.forced]
  · obtain ⟨a, b, hab⟩ := FloatL.nan_read (w.tape w.drawn (.nanConv .f64 f))
    have e : Ieee.double.read ((Question.nanConv .f64 f).cut (w.tape w.drawn (.nanConv .f64 f))) = .nan a b := hab
    show ((Ieee.double.read _).order (Ieee.double.read _) != some .eq) = true
    rw [e]
    rfl
  · generalize w.tape w.drawn (.nanConv .f64 f) = t
    show (t % 2) * 2 ^ 63 + 0x7ff0000000000000 + 1 + (t / 2) % (2 ^ 52 - 1) < 18446744073709551616
    omega
theorem to64_any2 (n : Nat) (w : World) : ∃ (b : Nat) (w1 : World), (convert 95 41 (.float .f32 n)).run Tryd.prog w = .ok (.float .f64 b) w1 ∧ (w1 = w ∨ w1 = w.drew) ∧ canonR b = widR n ∧ b < 18446744073709551616 := by
  have hw : ∀ d, Ieee.double.write d < 2 ^ 64 := fun d => Ieee.Format.write_lt Ieee.double d
  unfold widR widenE
  cases h : Ieee.single.read n with
  | number s m e => exact ⟨_, _, to64_num h w, .inl rfl, rfl, hw _⟩
  | infinity s => exact ⟨_, _, to64_inf h w, .inl rfl, rfl, hw _⟩
  | nan s t =>
    obtain ⟨b, h1, hn, hb⟩ := to64_nan2 h w
    refine ⟨b, _, h1, .inr rfl, ?_, hb⟩
    unfold canonR
    rw [hn]
    rfl
theorem from32_c {w : World} (n : Nat) : Calls Tryd.prog 87 #[.int .u32 n] w fun e w' => e = .returned (.float .f32 n) ∧ w = w' := by
  have q := from32_run
  go_enter Tryd.func87, Tryd.ntmps87
  go_wp2_with fail
  go_ret
  exact ⟨rfl, rfl⟩
set_option maxRecDepth 100000 in
theorem refWiden_c {w : World} (n : Nat) (ni : Int) (hni : ni = n) :
    Calls Tryd.prog 75 #[.int .u32 ni] w fun e w' => e = .returned (.float .f64 (widR n)) ∧ Below w.heap.size w w' := by
  subst hni
  obtain ⟨b, w1, hc, hw, hb, hlt⟩ := to64_any2 n w
  have HB := Lib.hid hb
  have HL := Lib.hid hlt
  have hW := Lib.hid (show Below w.heap.size w w1 by rcases hw with rfl | rfl; exact Below.refl _ _; exact (Below.refl _ _).drew)
  clear hb hw hlt
  go_enter Tryd.func75, Tryd.ntmps75
  go_wp2_with fail
  refine (from32_c n).mono ?_
  rintro e w2 ⟨rfl, rfl⟩
  go_wp2_with fail
  refine (refCanon_c b HL.out).mono ?_
  rintro e w2 ⟨rfl, rfl⟩
  go_wp2_with fail
  go_ret
  exact ⟨by first | rfl | (rw [HB.out]; rfl), hW.out⟩
end Go.Proofs.YteigbejidfkhpaaDoor

/- The reference's reader: the next value. -/
namespace Go.Proofs.YteigbejidfkhpaaDoor
open Go Go.RowKit
set_option linter.unusedSimpArgs false
set_option linter.unusedVariables false

def VPost (w : World) (R : Nat) (O : Option (Vl × ByteArray)) (e : Ending) (w' : World) : Prop :=
  ∃ v : Vl, e = .returned v.val ∧ (∀ p r, O = some (p, r) → v = p) ∧ RX w' R (leftX O) ∧ w.grownBy w' (some R)
theorem rr_below {w w1 : World} {R : Nat} {s : ByteArray} {b : Bool} (h : RR w R s b) (hb : Below w.heap.size w w1) : RR w1 R s b := by
  unfold RR at h ⊢
  rw [hb.block R (Array.getElem?_eq_some_iff.1 h).1]
  exact h
theorem rr_lt {w : World} {R : Nat} {s : ByteArray} {b : Bool} (h : RR w R s b) : R < w.heap.size := (Array.getElem?_eq_some_iff.1 h).1
theorem rx_lt {w : World} {R : Nat} {o : Option ByteArray} (h : RX w R o) : R < w.heap.size := by
  cases o with
  | none => obtain ⟨s, h⟩ := h; exact rr_lt h
  | some s => exact rr_lt h
theorem rx_below {w w1 : World} {R : Nat} {o : Option ByteArray} (h : RX w R o) (hb : Below w.heap.size w w1) : RX w1 R o := by
  cases o with
  | none => obtain ⟨s, h⟩ := h; exact ⟨s, rr_below h hb⟩
  | some s => exact rr_below h hb
theorem rx_other {w : World} {R n : Nat} {o : Option ByteArray} (h : RX w R o) (hn : R ≠ n) (j : Nat) (u : Value) : RX (w.setCell ⟨n, j, none⟩ u) R o := by
  cases o with
  | none => obtain ⟨s, h⟩ := h; exact ⟨s, (Below.heap_setCell w ⟨n, j, none⟩ u R hn).trans h⟩
  | some s => exact (Below.heap_setCell w ⟨n, j, none⟩ u R hn).trans h
theorem rx4 {w : World} {R n : Nat} {o : Option ByteArray} (hn : R < n) (h : RX w R o) (x y z u : Value) : RX (set4w w n x y z u) R o :=
  rx_other (rx_other (rx_other (rx_other h (by omega) 0 x) (by omega) 1 y) (by omega) 2 z) (by omega) 3 u
theorem rx_bad {w : World} {R : Nat} {o : Option ByteArray} (h : RX w R o) : ∃ (s : ByteArray) (b : Bool), RR w R s b := by
  cases o with
  | none => obtain ⟨s, h⟩ := h; exact ⟨s, true, h⟩
  | some s => exact ⟨s, false, h⟩
theorem left_map {X Y : Type} (f : X → Y) (y : Option (X × ByteArray)) : leftX (y.map fun q => (f q.1, q.2)) = leftX y := by cases y <;> rfl
theorem map_out {X Y : Type} {f : X → Y} {y : Option (X × ByteArray)} {d : X} : ∀ p r, (y.map fun q => (f q.1, q.2)) = some (p, r) → f (outX d y) = p := by
  intro p r h
  cases y with
  | none => cases h
  | some q => exact congrArg Prod.fst (Option.some.inj h)
theorem out_lt {k : Nat} {o : Option ByteArray} : outX 0 (o.bind (numP k)) < 256 ^ k := by
  cases hy : o.bind (numP k) with
  | none => exact Nat.pow_pos (by omega)
  | some q => obtain ⟨n, r⟩ := q; exact bind_num hy
theorem bind_val (o : Option ByteArray) : o.bind valP = (o.bind (takeP 1)).bind fun p => valQ p.1 p.2 := by cases o <;> rfl

set_option maxRecDepth 1000000 in
set_option maxHeartbeats 8000000 in
theorem xValue_c {w : World} {R : Nat} {o : Option ByteArray} (h : RX w R o) :
    Calls Tryd.prog 64 #[.pointer (some ⟨R, 0, none⟩)] w (VPost w R (o.bind valP)) := by
  have bA : Below w.heap.size w (w.alloc (.cells #[.int .i64 0, .int .i64 0, .string ByteArray.empty, .float .f64 0] 46)) := (Below.refl _ _).alloc (Nat.le_refl _) _
  have hT := xTake_c (rx_below h bA) 1 1 rfl
  have qs := store_float (P := Tryd.prog)
  have BA := Lib.hid bA
  have HG := Lib.hid (rx_lt h)
  rw [bind_val]
  have hnew : ∀ w1 : World, (w.alloc (.cells #[.int .i64 0, .int .i64 0, .string ByteArray.empty, .float .f64 0] 46)).grownBy w1 (some R) → w1.heap[w.heap.size]? = some (.cells #[.int .i64 0, .int .i64 0, .string ByteArray.empty, .float .f64 0] 46 (0, 0)) := fun w1 h1 => by
    rw [h1.block w.heap.size (by simp) (fun e => by injection e with e; have := HG.out; omega)]
    exact heap_alloc_new w _
  have HNW := Lib.hid hnew
  clear hnew h bA
  obtain ⟨y, hy⟩ : ∃ y, y = o.bind (takeP 1) := ⟨_, rfl⟩
  rw [← hy] at hT ⊢
  have HT := Lib.hid hT
  clear hy hT
  obtain ⟨x, hx⟩ : ∃ x, x = outX ByteArray.empty y := ⟨_, rfl⟩
  have hx2 := hx.symm
  have HX := Lib.hid hx
  clear hx
  by_cases c0 : x = ⟨#[116]⟩
  · obtain ⟨r, hyr⟩ : ∃ r, y = some (⟨#[116]⟩, r) := by
      cases y with
      | none => rw [HX.out] at c0; exact absurd (congrArg ByteArray.size c0) (by decide)
      | some q => obtain ⟨q1, r⟩ := q; rw [HX.out] at c0; exact ⟨r, by rw [← c0]; rfl⟩
    subst hyr
    rw [show ((some ((⟨#[116]⟩ : ByteArray), r) : Option (ByteArray × ByteArray)).bind fun p => valQ p.1 p.2) = (numP 1 r).map (fun q => ((⟨2, q.1, ByteArray.empty, 0⟩ : Vl), q.2)) from by show valQ ⟨#[116]⟩ r = _; unfold valQ; rw [if_pos rfl]]
    subst c0
    obtain ⟨y2, hy2⟩ : ∃ y2, y2 = numP 1 r := ⟨_, rfl⟩
    rw [← hy2]
    have HY := Lib.hid hy2
    clear HX hy2
    go_enter Tryd.func64, Tryd.ntmps64
    go_wp2_with fail
    refine (HT.out).mono ?_
    rintro e w1 ⟨rfl, r1, g1⟩
    have hN := xNumber_c (o := some r) r1 1 (by omega) 1 rfl
    have hlt := out_lt (k := 1) (o := some r)
    rw [show (some r).bind (numP 1) = numP 1 r from rfl] at hN hlt
    rw [← HY.out] at hN hlt
    obtain ⟨q, hq⟩ : ∃ q, q = outX 0 y2 := ⟨_, rfl⟩
    have hq2 := hq.symm
    have HQ := Lib.hid hq
    rw [← hq] at hlt
    have HLT := Lib.hid hlt
    have HN := Lib.hid hN
    have G1 := Lib.hid g1
    clear hN g1 r1 hq hlt
    have hw : IntKind.i64.wrap (q : Int) = (q : Int) := IntWalk.i64_in _ (by have := HLT.out; omega)
    go_wp2_with fail
    refine (HN.out).mono ?_
    rintro e w2 ⟨rfl, r2, g2⟩
    have R2 := Lib.hid r2
    have G2 := Lib.hid (G1.out.trans g2)
    clear r2 g2
    have HB := Lib.hid (HNW.out _ G2.out)
    have q0 : w2.cell? ⟨w.heap.size, 0, none⟩ = some (.int .i64 0) := by simp [World.cell?, HB.out]
    have q1 : w2.cell? ⟨w.heap.size, 1, none⟩ = some (.int .i64 0) := by simp [World.cell?, HB.out]
    have q2 : w2.cell? ⟨w.heap.size, 2, none⟩ = some (.string ByteArray.empty) := by simp [World.cell?, HB.out]
    have q3 : w2.cell? ⟨w.heap.size, 3, none⟩ = some (.float .f64 0) := by simp [World.cell?, HB.out]
    have f0 : w2.frozen? ⟨w.heap.size, 0, none⟩ = false := by simp [World.frozen?, HB.out]
    have f1 : w2.frozen? ⟨w.heap.size, 1, none⟩ = false := by simp [World.frozen?, HB.out]
    have f2 : w2.frozen? ⟨w.heap.size, 2, none⟩ = false := by simp [World.frozen?, HB.out]
    have f3 : w2.frozen? ⟨w.heap.size, 3, none⟩ = false := by simp [World.frozen?, HB.out]
    go_wp2_with fail
    refine value_end rfl rfl (cells4_at HB.out _ _ _ _) rfl ?_
    refine ⟨⟨2, q, ByteArray.empty, 0⟩, by first | rfl | (rw [HZ.out]; rfl), fun p r h => ?_, ?_, grown4 BA.out G2.out _ _ _ _⟩
    · rw [HQ.out]; exact map_out (d := 0) (f := fun q : Nat => (⟨2, q, ByteArray.empty, 0⟩ : Vl)) p r h
    · rw [left_map (fun q : Nat => (⟨2, q, ByteArray.empty, 0⟩ : Vl))]; exact rx4 HG.out R2.out _ _ _ _
  have b0 : (x.toList == [116]) = false := str_bne (l := [116]) c0
  by_cases c1 : x = ⟨#[98]⟩
  · obtain ⟨r, hyr⟩ : ∃ r, y = some (⟨#[98]⟩, r) := by
      cases y with
      | none => rw [HX.out] at c1; exact absurd (congrArg ByteArray.size c1) (by decide)
      | some q => obtain ⟨q1, r⟩ := q; rw [HX.out] at c1; exact ⟨r, by rw [← c1]; rfl⟩
    subst hyr
    rw [show ((some ((⟨#[98]⟩ : ByteArray), r) : Option (ByteArray × ByteArray)).bind fun p => valQ p.1 p.2) = (numP 1 r).map (fun q => ((⟨1, sgn 8 q.1, ByteArray.empty, 0⟩ : Vl), q.2)) from by show valQ ⟨#[98]⟩ r = _; unfold valQ; rw [if_neg (by decide), if_pos rfl]]
    subst c1
    obtain ⟨y2, hy2⟩ : ∃ y2, y2 = numP 1 r := ⟨_, rfl⟩
    rw [← hy2]
    have HY := Lib.hid hy2
    clear HX hy2 b0
    go_enter Tryd.func64, Tryd.ntmps64
    go_wp2_with fail
    refine (HT.out).mono ?_
    rintro e w1 ⟨rfl, r1, g1⟩
    have hN := xNumber_c (o := some r) r1 1 (by omega) 1 rfl
    have hlt := out_lt (k := 1) (o := some r)
    rw [show (some r).bind (numP 1) = numP 1 r from rfl] at hN hlt
    rw [← HY.out] at hN hlt
    obtain ⟨q, hq⟩ : ∃ q, q = outX 0 y2 := ⟨_, rfl⟩
    have hq2 := hq.symm
    have HQ := Lib.hid hq
    rw [← hq] at hlt
    have HLT := Lib.hid hlt
    have HN := Lib.hid hN
    have G1 := Lib.hid g1
    clear hN g1 r1 hq hlt
    go_wp2_with fail
    refine (HN.out).mono ?_
    rintro e w2 ⟨rfl, r2, g2⟩
    have R2 := Lib.hid r2
    have G2 := Lib.hid (G1.out.trans g2)
    clear r2 g2
    obtain ⟨z, hz⟩ : ∃ z, z = sgn 8 q := ⟨_, rfl⟩
    have HS := Lib.hid (signed8_c (w := w2) q (show q < 256 from HLT.out))
    rw [← hz] at HS
    have HZ := Lib.hid hz
    clear hz
    go_wp2_with fail
    refine (HS.out).mono ?_
    rintro e w3 ⟨rfl, rfl⟩
    have HB := Lib.hid (HNW.out _ G2.out)
    have q0 : w2.cell? ⟨w.heap.size, 0, none⟩ = some (.int .i64 0) := by simp [World.cell?, HB.out]
    have q1 : w2.cell? ⟨w.heap.size, 1, none⟩ = some (.int .i64 0) := by simp [World.cell?, HB.out]
    have q2 : w2.cell? ⟨w.heap.size, 2, none⟩ = some (.string ByteArray.empty) := by simp [World.cell?, HB.out]
    have q3 : w2.cell? ⟨w.heap.size, 3, none⟩ = some (.float .f64 0) := by simp [World.cell?, HB.out]
    have f0 : w2.frozen? ⟨w.heap.size, 0, none⟩ = false := by simp [World.frozen?, HB.out]
    have f1 : w2.frozen? ⟨w.heap.size, 1, none⟩ = false := by simp [World.frozen?, HB.out]
    have f2 : w2.frozen? ⟨w.heap.size, 2, none⟩ = false := by simp [World.frozen?, HB.out]
    have f3 : w2.frozen? ⟨w.heap.size, 3, none⟩ = false := by simp [World.frozen?, HB.out]
    go_wp2_with fail
    refine value_end rfl rfl (cells4_at HB.out _ _ _ _) rfl ?_
    refine ⟨⟨1, sgn 8 q, ByteArray.empty, 0⟩, by first | rfl | (rw [HZ.out]; rfl), fun p r h => ?_, ?_, grown4 BA.out G2.out _ _ _ _⟩
    · rw [HQ.out]; exact map_out (d := 0) (f := fun q : Nat => (⟨1, sgn 8 q, ByteArray.empty, 0⟩ : Vl)) p r h
    · rw [left_map (fun q : Nat => (⟨1, sgn 8 q, ByteArray.empty, 0⟩ : Vl))]; exact rx4 HG.out R2.out _ _ _ _
  have b1 : (x.toList == [98]) = false := str_bne (l := [98]) c1
  by_cases c2 : x = ⟨#[115]⟩
  · obtain ⟨r, hyr⟩ : ∃ r, y = some (⟨#[115]⟩, r) := by
      cases y with
      | none => rw [HX.out] at c2; exact absurd (congrArg ByteArray.size c2) (by decide)
      | some q => obtain ⟨q1, r⟩ := q; rw [HX.out] at c2; exact ⟨r, by rw [← c2]; rfl⟩
    subst hyr
    rw [show ((some ((⟨#[115]⟩ : ByteArray), r) : Option (ByteArray × ByteArray)).bind fun p => valQ p.1 p.2) = (numP 2 r).map (fun q => ((⟨1, sgn 16 q.1, ByteArray.empty, 0⟩ : Vl), q.2)) from by show valQ ⟨#[115]⟩ r = _; unfold valQ; rw [if_neg (by decide), if_neg (by decide), if_pos rfl]]
    subst c2
    obtain ⟨y2, hy2⟩ : ∃ y2, y2 = numP 2 r := ⟨_, rfl⟩
    rw [← hy2]
    have HY := Lib.hid hy2
    clear HX hy2 b0 b1
    go_enter Tryd.func64, Tryd.ntmps64
    go_wp2_with fail
    refine (HT.out).mono ?_
    rintro e w1 ⟨rfl, r1, g1⟩
    have hN := xNumber_c (o := some r) r1 2 (by omega) 2 rfl
    have hlt := out_lt (k := 2) (o := some r)
    rw [show (some r).bind (numP 2) = numP 2 r from rfl] at hN hlt
    rw [← HY.out] at hN hlt
    obtain ⟨q, hq⟩ : ∃ q, q = outX 0 y2 := ⟨_, rfl⟩
    have hq2 := hq.symm
    have HQ := Lib.hid hq
    rw [← hq] at hlt
    have HLT := Lib.hid hlt
    have HN := Lib.hid hN
    have G1 := Lib.hid g1
    clear hN g1 r1 hq hlt
    go_wp2_with fail
    refine (HN.out).mono ?_
    rintro e w2 ⟨rfl, r2, g2⟩
    have R2 := Lib.hid r2
    have G2 := Lib.hid (G1.out.trans g2)
    clear r2 g2
    obtain ⟨z, hz⟩ : ∃ z, z = sgn 16 q := ⟨_, rfl⟩
    have HS := Lib.hid (signed16_c (w := w2) q (show q < 65536 from HLT.out))
    rw [← hz] at HS
    have HZ := Lib.hid hz
    clear hz
    go_wp2_with fail
    refine (HS.out).mono ?_
    rintro e w3 ⟨rfl, rfl⟩
    have HB := Lib.hid (HNW.out _ G2.out)
    have q0 : w2.cell? ⟨w.heap.size, 0, none⟩ = some (.int .i64 0) := by simp [World.cell?, HB.out]
    have q1 : w2.cell? ⟨w.heap.size, 1, none⟩ = some (.int .i64 0) := by simp [World.cell?, HB.out]
    have q2 : w2.cell? ⟨w.heap.size, 2, none⟩ = some (.string ByteArray.empty) := by simp [World.cell?, HB.out]
    have q3 : w2.cell? ⟨w.heap.size, 3, none⟩ = some (.float .f64 0) := by simp [World.cell?, HB.out]
    have f0 : w2.frozen? ⟨w.heap.size, 0, none⟩ = false := by simp [World.frozen?, HB.out]
    have f1 : w2.frozen? ⟨w.heap.size, 1, none⟩ = false := by simp [World.frozen?, HB.out]
    have f2 : w2.frozen? ⟨w.heap.size, 2, none⟩ = false := by simp [World.frozen?, HB.out]
    have f3 : w2.frozen? ⟨w.heap.size, 3, none⟩ = false := by simp [World.frozen?, HB.out]
    go_wp2_with fail
    refine value_end rfl rfl (cells4_at HB.out _ _ _ _) rfl ?_
    refine ⟨⟨1, sgn 16 q, ByteArray.empty, 0⟩, by first | rfl | (rw [HZ.out]; rfl), fun p r h => ?_, ?_, grown4 BA.out G2.out _ _ _ _⟩
    · rw [HQ.out]; exact map_out (d := 0) (f := fun q : Nat => (⟨1, sgn 16 q, ByteArray.empty, 0⟩ : Vl)) p r h
    · rw [left_map (fun q : Nat => (⟨1, sgn 16 q, ByteArray.empty, 0⟩ : Vl))]; exact rx4 HG.out R2.out _ _ _ _
  have b2 : (x.toList == [115]) = false := str_bne (l := [115]) c2
  by_cases c3 : x = ⟨#[73]⟩
  · obtain ⟨r, hyr⟩ : ∃ r, y = some (⟨#[73]⟩, r) := by
      cases y with
      | none => rw [HX.out] at c3; exact absurd (congrArg ByteArray.size c3) (by decide)
      | some q => obtain ⟨q1, r⟩ := q; rw [HX.out] at c3; exact ⟨r, by rw [← c3]; rfl⟩
    subst hyr
    rw [show ((some ((⟨#[73]⟩ : ByteArray), r) : Option (ByteArray × ByteArray)).bind fun p => valQ p.1 p.2) = (numP 4 r).map (fun q => ((⟨1, sgn 32 q.1, ByteArray.empty, 0⟩ : Vl), q.2)) from by show valQ ⟨#[73]⟩ r = _; unfold valQ; rw [if_neg (by decide), if_neg (by decide), if_neg (by decide), if_pos rfl]]
    subst c3
    obtain ⟨y2, hy2⟩ : ∃ y2, y2 = numP 4 r := ⟨_, rfl⟩
    rw [← hy2]
    have HY := Lib.hid hy2
    clear HX hy2 b0 b1 b2
    go_enter Tryd.func64, Tryd.ntmps64
    go_wp2_with fail
    refine (HT.out).mono ?_
    rintro e w1 ⟨rfl, r1, g1⟩
    have hN := xNumber_c (o := some r) r1 4 (by omega) 4 rfl
    have hlt := out_lt (k := 4) (o := some r)
    rw [show (some r).bind (numP 4) = numP 4 r from rfl] at hN hlt
    rw [← HY.out] at hN hlt
    obtain ⟨q, hq⟩ : ∃ q, q = outX 0 y2 := ⟨_, rfl⟩
    have hq2 := hq.symm
    have HQ := Lib.hid hq
    rw [← hq] at hlt
    have HLT := Lib.hid hlt
    have HN := Lib.hid hN
    have G1 := Lib.hid g1
    clear hN g1 r1 hq hlt
    go_wp2_with fail
    refine (HN.out).mono ?_
    rintro e w2 ⟨rfl, r2, g2⟩
    have R2 := Lib.hid r2
    have G2 := Lib.hid (G1.out.trans g2)
    clear r2 g2
    obtain ⟨z, hz⟩ : ∃ z, z = sgn 32 q := ⟨_, rfl⟩
    have HS := Lib.hid (signed32_c (w := w2) q (show q < 4294967296 from HLT.out))
    rw [← hz] at HS
    have HZ := Lib.hid hz
    clear hz
    go_wp2_with fail
    refine (HS.out).mono ?_
    rintro e w3 ⟨rfl, rfl⟩
    have HB := Lib.hid (HNW.out _ G2.out)
    have q0 : w2.cell? ⟨w.heap.size, 0, none⟩ = some (.int .i64 0) := by simp [World.cell?, HB.out]
    have q1 : w2.cell? ⟨w.heap.size, 1, none⟩ = some (.int .i64 0) := by simp [World.cell?, HB.out]
    have q2 : w2.cell? ⟨w.heap.size, 2, none⟩ = some (.string ByteArray.empty) := by simp [World.cell?, HB.out]
    have q3 : w2.cell? ⟨w.heap.size, 3, none⟩ = some (.float .f64 0) := by simp [World.cell?, HB.out]
    have f0 : w2.frozen? ⟨w.heap.size, 0, none⟩ = false := by simp [World.frozen?, HB.out]
    have f1 : w2.frozen? ⟨w.heap.size, 1, none⟩ = false := by simp [World.frozen?, HB.out]
    have f2 : w2.frozen? ⟨w.heap.size, 2, none⟩ = false := by simp [World.frozen?, HB.out]
    have f3 : w2.frozen? ⟨w.heap.size, 3, none⟩ = false := by simp [World.frozen?, HB.out]
    go_wp2_with fail
    refine value_end rfl rfl (cells4_at HB.out _ _ _ _) rfl ?_
    refine ⟨⟨1, sgn 32 q, ByteArray.empty, 0⟩, by first | rfl | (rw [HZ.out]; rfl), fun p r h => ?_, ?_, grown4 BA.out G2.out _ _ _ _⟩
    · rw [HQ.out]; exact map_out (d := 0) (f := fun q : Nat => (⟨1, sgn 32 q, ByteArray.empty, 0⟩ : Vl)) p r h
    · rw [left_map (fun q : Nat => (⟨1, sgn 32 q, ByteArray.empty, 0⟩ : Vl))]; exact rx4 HG.out R2.out _ _ _ _
  have b3 : (x.toList == [73]) = false := str_bne (l := [73]) c3
  by_cases c4 : x = ⟨#[108]⟩
  · obtain ⟨r, hyr⟩ : ∃ r, y = some (⟨#[108]⟩, r) := by
      cases y with
      | none => rw [HX.out] at c4; exact absurd (congrArg ByteArray.size c4) (by decide)
      | some q => obtain ⟨q1, r⟩ := q; rw [HX.out] at c4; exact ⟨r, by rw [← c4]; rfl⟩
    subst hyr
    rw [show ((some ((⟨#[108]⟩ : ByteArray), r) : Option (ByteArray × ByteArray)).bind fun p => valQ p.1 p.2) = (numP 8 r).map (fun q => ((⟨1, sgn 64 q.1, ByteArray.empty, 0⟩ : Vl), q.2)) from by show valQ ⟨#[108]⟩ r = _; unfold valQ; rw [if_neg (by decide), if_neg (by decide), if_neg (by decide), if_neg (by decide), if_pos rfl]]
    subst c4
    obtain ⟨y2, hy2⟩ : ∃ y2, y2 = numP 8 r := ⟨_, rfl⟩
    rw [← hy2]
    have HY := Lib.hid hy2
    clear HX hy2 b0 b1 b2 b3
    go_enter Tryd.func64, Tryd.ntmps64
    go_wp2_with fail
    refine (HT.out).mono ?_
    rintro e w1 ⟨rfl, r1, g1⟩
    have hN := xNumber_c (o := some r) r1 8 (by omega) 8 rfl
    have hlt := out_lt (k := 8) (o := some r)
    rw [show (some r).bind (numP 8) = numP 8 r from rfl] at hN hlt
    rw [← HY.out] at hN hlt
    obtain ⟨q, hq⟩ : ∃ q, q = outX 0 y2 := ⟨_, rfl⟩
    have hq2 := hq.symm
    have HQ := Lib.hid hq
    rw [← hq] at hlt
    have HLT := Lib.hid hlt
    have HN := Lib.hid hN
    have G1 := Lib.hid g1
    clear hN g1 r1 hq hlt
    go_wp2_with fail
    refine (HN.out).mono ?_
    rintro e w2 ⟨rfl, r2, g2⟩
    have R2 := Lib.hid r2
    have G2 := Lib.hid (G1.out.trans g2)
    clear r2 g2
    obtain ⟨z, hz⟩ : ∃ z, z = sgn 64 q := ⟨_, rfl⟩
    have HS := Lib.hid (signed64_c (w := w2) q (show q < 18446744073709551616 from HLT.out))
    rw [← hz] at HS
    have HZ := Lib.hid hz
    clear hz
    go_wp2_with fail
    refine (HS.out).mono ?_
    rintro e w3 ⟨rfl, rfl⟩
    have HB := Lib.hid (HNW.out _ G2.out)
    have q0 : w2.cell? ⟨w.heap.size, 0, none⟩ = some (.int .i64 0) := by simp [World.cell?, HB.out]
    have q1 : w2.cell? ⟨w.heap.size, 1, none⟩ = some (.int .i64 0) := by simp [World.cell?, HB.out]
    have q2 : w2.cell? ⟨w.heap.size, 2, none⟩ = some (.string ByteArray.empty) := by simp [World.cell?, HB.out]
    have q3 : w2.cell? ⟨w.heap.size, 3, none⟩ = some (.float .f64 0) := by simp [World.cell?, HB.out]
    have f0 : w2.frozen? ⟨w.heap.size, 0, none⟩ = false := by simp [World.frozen?, HB.out]
    have f1 : w2.frozen? ⟨w.heap.size, 1, none⟩ = false := by simp [World.frozen?, HB.out]
    have f2 : w2.frozen? ⟨w.heap.size, 2, none⟩ = false := by simp [World.frozen?, HB.out]
    have f3 : w2.frozen? ⟨w.heap.size, 3, none⟩ = false := by simp [World.frozen?, HB.out]
    go_wp2_with fail
    refine value_end rfl rfl (cells4_at HB.out _ _ _ _) rfl ?_
    refine ⟨⟨1, sgn 64 q, ByteArray.empty, 0⟩, by first | rfl | (rw [HZ.out]; rfl), fun p r h => ?_, ?_, grown4 BA.out G2.out _ _ _ _⟩
    · rw [HQ.out]; exact map_out (d := 0) (f := fun q : Nat => (⟨1, sgn 64 q, ByteArray.empty, 0⟩ : Vl)) p r h
    · rw [left_map (fun q : Nat => (⟨1, sgn 64 q, ByteArray.empty, 0⟩ : Vl))]; exact rx4 HG.out R2.out _ _ _ _
  have b4 : (x.toList == [108]) = false := str_bne (l := [108]) c4
  by_cases c5 : x = ⟨#[102]⟩
  · obtain ⟨r, hyr⟩ : ∃ r, y = some (⟨#[102]⟩, r) := by
      cases y with
      | none => rw [HX.out] at c5; exact absurd (congrArg ByteArray.size c5) (by decide)
      | some q => obtain ⟨q1, r⟩ := q; rw [HX.out] at c5; exact ⟨r, by rw [← c5]; rfl⟩
    subst hyr
    rw [show ((some ((⟨#[102]⟩ : ByteArray), r) : Option (ByteArray × ByteArray)).bind fun p => valQ p.1 p.2) = (numP 4 r).map (fun q => ((⟨4, 0, ByteArray.empty, widR q.1⟩ : Vl), q.2)) from by show valQ ⟨#[102]⟩ r = _; unfold valQ; rw [if_neg (by decide), if_neg (by decide), if_neg (by decide), if_neg (by decide), if_neg (by decide), if_pos rfl]]
    subst c5
    obtain ⟨y2, hy2⟩ : ∃ y2, y2 = numP 4 r := ⟨_, rfl⟩
    rw [← hy2]
    have HY := Lib.hid hy2
    clear HX hy2 b0 b1 b2 b3 b4
    go_enter Tryd.func64, Tryd.ntmps64
    go_wp2_with fail
    refine (HT.out).mono ?_
    rintro e w1 ⟨rfl, r1, g1⟩
    have hN := xNumber_c (o := some r) r1 4 (by omega) 4 rfl
    have hlt := out_lt (k := 4) (o := some r)
    rw [show (some r).bind (numP 4) = numP 4 r from rfl] at hN hlt
    rw [← HY.out] at hN hlt
    obtain ⟨q, hq⟩ : ∃ q, q = outX 0 y2 := ⟨_, rfl⟩
    have hq2 := hq.symm
    have HQ := Lib.hid hq
    rw [← hq] at hlt
    have HLT := Lib.hid hlt
    have HN := Lib.hid hN
    have G1 := Lib.hid g1
    clear hN g1 r1 hq hlt
    have hw : IntKind.u32.wrap (q : Int) = (q : Int) := IntWalk.u32_in _ (by have := HLT.out; omega)
    go_wp2_with fail
    refine (HN.out).mono ?_
    rintro e w2 ⟨rfl, r2, g2⟩
    have R2 := Lib.hid r2
    have G2 := Lib.hid (G1.out.trans g2)
    clear r2 g2
    go_wp2_with fail
    refine (refWiden_c q _ (by first | rfl | exact hw)).mono ?_
    rintro e w3 ⟨rfl, b3⟩
    replace R2 := Lib.hid (rx_below R2.out b3)
    replace G2 := Lib.hid (G2.out.trans (grownBy_below b3 _))
    clear b3
    have HB := Lib.hid (HNW.out _ G2.out)
    have q0 : w3.cell? ⟨w.heap.size, 0, none⟩ = some (.int .i64 0) := by simp [World.cell?, HB.out]
    have q1 : w3.cell? ⟨w.heap.size, 1, none⟩ = some (.int .i64 0) := by simp [World.cell?, HB.out]
    have q2 : w3.cell? ⟨w.heap.size, 2, none⟩ = some (.string ByteArray.empty) := by simp [World.cell?, HB.out]
    have q3 : w3.cell? ⟨w.heap.size, 3, none⟩ = some (.float .f64 0) := by simp [World.cell?, HB.out]
    have f0 : w3.frozen? ⟨w.heap.size, 0, none⟩ = false := by simp [World.frozen?, HB.out]
    have f1 : w3.frozen? ⟨w.heap.size, 1, none⟩ = false := by simp [World.frozen?, HB.out]
    have f2 : w3.frozen? ⟨w.heap.size, 2, none⟩ = false := by simp [World.frozen?, HB.out]
    have f3 : w3.frozen? ⟨w.heap.size, 3, none⟩ = false := by simp [World.frozen?, HB.out]
    go_wp2_with fail
    refine value_end rfl rfl (cells4_at HB.out _ _ _ _) rfl ?_
    refine ⟨⟨4, 0, ByteArray.empty, widR q⟩, by first | rfl | (rw [HZ.out]; rfl), fun p r h => ?_, ?_, grown4 BA.out G2.out _ _ _ _⟩
    · rw [HQ.out]; exact map_out (d := 0) (f := fun q : Nat => (⟨4, 0, ByteArray.empty, widR q⟩ : Vl)) p r h
    · rw [left_map (fun q : Nat => (⟨4, 0, ByteArray.empty, widR q⟩ : Vl))]; exact rx4 HG.out R2.out _ _ _ _
  have b5 : (x.toList == [102]) = false := str_bne (l := [102]) c5
  by_cases c6 : x = ⟨#[100]⟩
  · obtain ⟨r, hyr⟩ : ∃ r, y = some (⟨#[100]⟩, r) := by
      cases y with
      | none => rw [HX.out] at c6; exact absurd (congrArg ByteArray.size c6) (by decide)
      | some q => obtain ⟨q1, r⟩ := q; rw [HX.out] at c6; exact ⟨r, by rw [← c6]; rfl⟩
    subst hyr
    rw [show ((some ((⟨#[100]⟩ : ByteArray), r) : Option (ByteArray × ByteArray)).bind fun p => valQ p.1 p.2) = (numP 8 r).map (fun q => ((⟨4, 0, ByteArray.empty, canonR q.1⟩ : Vl), q.2)) from by show valQ ⟨#[100]⟩ r = _; unfold valQ; rw [if_neg (by decide), if_neg (by decide), if_neg (by decide), if_neg (by decide), if_neg (by decide), if_neg (by decide), if_pos rfl]]
    subst c6
    obtain ⟨y2, hy2⟩ : ∃ y2, y2 = numP 8 r := ⟨_, rfl⟩
    rw [← hy2]
    have HY := Lib.hid hy2
    clear HX hy2 b0 b1 b2 b3 b4 b5
    go_enter Tryd.func64, Tryd.ntmps64
    go_wp2_with fail
    refine (HT.out).mono ?_
    rintro e w1 ⟨rfl, r1, g1⟩
    have hN := xNumber_c (o := some r) r1 8 (by omega) 8 rfl
    have hlt := out_lt (k := 8) (o := some r)
    rw [show (some r).bind (numP 8) = numP 8 r from rfl] at hN hlt
    rw [← HY.out] at hN hlt
    obtain ⟨q, hq⟩ : ∃ q, q = outX 0 y2 := ⟨_, rfl⟩
    have hq2 := hq.symm
    have HQ := Lib.hid hq
    rw [← hq] at hlt
    have HLT := Lib.hid hlt
    have HN := Lib.hid hN
    have G1 := Lib.hid g1
    clear hN g1 r1 hq hlt
    go_wp2_with fail
    refine (HN.out).mono ?_
    rintro e w2 ⟨rfl, r2, g2⟩
    have R2 := Lib.hid r2
    have G2 := Lib.hid (G1.out.trans g2)
    clear r2 g2
    go_wp2_with fail
    refine (from_c q).mono ?_
    rintro e w3 ⟨rfl, rfl⟩
    go_wp2_with fail
    refine (refCanon_c q HLT.out).mono ?_
    rintro e w3 ⟨rfl, rfl⟩
    have HB := Lib.hid (HNW.out _ G2.out)
    have q0 : w2.cell? ⟨w.heap.size, 0, none⟩ = some (.int .i64 0) := by simp [World.cell?, HB.out]
    have q1 : w2.cell? ⟨w.heap.size, 1, none⟩ = some (.int .i64 0) := by simp [World.cell?, HB.out]
    have q2 : w2.cell? ⟨w.heap.size, 2, none⟩ = some (.string ByteArray.empty) := by simp [World.cell?, HB.out]
    have q3 : w2.cell? ⟨w.heap.size, 3, none⟩ = some (.float .f64 0) := by simp [World.cell?, HB.out]
    have f0 : w2.frozen? ⟨w.heap.size, 0, none⟩ = false := by simp [World.frozen?, HB.out]
    have f1 : w2.frozen? ⟨w.heap.size, 1, none⟩ = false := by simp [World.frozen?, HB.out]
    have f2 : w2.frozen? ⟨w.heap.size, 2, none⟩ = false := by simp [World.frozen?, HB.out]
    have f3 : w2.frozen? ⟨w.heap.size, 3, none⟩ = false := by simp [World.frozen?, HB.out]
    go_wp2_with fail
    refine value_end rfl rfl (cells4_at HB.out _ _ _ _) rfl ?_
    refine ⟨⟨4, 0, ByteArray.empty, canonR q⟩, by first | rfl | (rw [HZ.out]; rfl), fun p r h => ?_, ?_, grown4 BA.out G2.out _ _ _ _⟩
    · rw [HQ.out]; exact map_out (d := 0) (f := fun q : Nat => (⟨4, 0, ByteArray.empty, canonR q⟩ : Vl)) p r h
    · rw [left_map (fun q : Nat => (⟨4, 0, ByteArray.empty, canonR q⟩ : Vl))]; exact rx4 HG.out R2.out _ _ _ _
  have b6 : (x.toList == [100]) = false := str_bne (l := [100]) c6
  by_cases c7 : x = ⟨#[83]⟩
  · obtain ⟨r, hyr⟩ : ∃ r, y = some (⟨#[83]⟩, r) := by
      cases y with
      | none => rw [HX.out] at c7; exact absurd (congrArg ByteArray.size c7) (by decide)
      | some q => obtain ⟨q1, r⟩ := q; rw [HX.out] at c7; exact ⟨r, by rw [← c7]; rfl⟩
    subst hyr
    rw [show ((some ((⟨#[83]⟩ : ByteArray), r) : Option (ByteArray × ByteArray)).bind fun p => valQ p.1 p.2) = (longP r).map (fun q => ((⟨3, 0, q.1, 0⟩ : Vl), q.2)) from by show valQ ⟨#[83]⟩ r = _; unfold valQ; rw [if_neg (by decide), if_neg (by decide), if_neg (by decide), if_neg (by decide), if_neg (by decide), if_neg (by decide), if_neg (by decide), if_pos rfl]]
    subst c7
    obtain ⟨y2, hy2⟩ : ∃ y2, y2 = longP r := ⟨_, rfl⟩
    rw [← hy2]
    have HY := Lib.hid hy2
    clear HX hy2 b0 b1 b2 b3 b4 b5 b6
    go_enter Tryd.func64, Tryd.ntmps64
    go_wp2_with fail
    refine (HT.out).mono ?_
    rintro e w1 ⟨rfl, r1, g1⟩
    have hN := xLong_c (o := some r) r1
    rw [show (some r).bind (longP) = longP r from rfl] at hN
    rw [← HY.out] at hN
    obtain ⟨q, hq⟩ : ∃ q, q = outX ByteArray.empty y2 := ⟨_, rfl⟩
    have hq2 := hq.symm
    have HQ := Lib.hid hq
    have HN := Lib.hid hN
    have G1 := Lib.hid g1
    clear hN g1 r1 hq
    go_wp2_with fail
    refine (HN.out).mono ?_
    rintro e w2 ⟨rfl, r2, g2⟩
    have R2 := Lib.hid r2
    have G2 := Lib.hid (G1.out.trans g2)
    clear r2 g2
    have HB := Lib.hid (HNW.out _ G2.out)
    have q0 : w2.cell? ⟨w.heap.size, 0, none⟩ = some (.int .i64 0) := by simp [World.cell?, HB.out]
    have q1 : w2.cell? ⟨w.heap.size, 1, none⟩ = some (.int .i64 0) := by simp [World.cell?, HB.out]
    have q2 : w2.cell? ⟨w.heap.size, 2, none⟩ = some (.string ByteArray.empty) := by simp [World.cell?, HB.out]
    have q3 : w2.cell? ⟨w.heap.size, 3, none⟩ = some (.float .f64 0) := by simp [World.cell?, HB.out]
    have f0 : w2.frozen? ⟨w.heap.size, 0, none⟩ = false := by simp [World.frozen?, HB.out]
    have f1 : w2.frozen? ⟨w.heap.size, 1, none⟩ = false := by simp [World.frozen?, HB.out]
    have f2 : w2.frozen? ⟨w.heap.size, 2, none⟩ = false := by simp [World.frozen?, HB.out]
    have f3 : w2.frozen? ⟨w.heap.size, 3, none⟩ = false := by simp [World.frozen?, HB.out]
    go_wp2_with fail
    refine value_end rfl rfl (cells4_at HB.out _ _ _ _) rfl ?_
    refine ⟨⟨3, 0, q, 0⟩, by first | rfl | (rw [HZ.out]; rfl), fun p r h => ?_, ?_, grown4 BA.out G2.out _ _ _ _⟩
    · rw [HQ.out]; exact map_out (d := ByteArray.empty) (f := fun q : ByteArray => (⟨3, 0, q, 0⟩ : Vl)) p r h
    · rw [left_map (fun q : ByteArray => (⟨3, 0, q, 0⟩ : Vl))]; exact rx4 HG.out R2.out _ _ _ _
  have b7 : (x.toList == [83]) = false := str_bne (l := [83]) c7
  have hQ : (y.bind fun p => valQ p.1 p.2) = none := by
    cases y with
    | none => rfl
    | some q =>
      obtain ⟨q1, r⟩ := q
      have e : x = q1 := HX.out
      subst e
      show valQ _ r = none
      unfold valQ
      rw [if_neg c0, if_neg c1, if_neg c2, if_neg c3, if_neg c4, if_neg c5, if_neg c6, if_neg c7]
  rw [hQ]
  clear hQ HX c0 c1 c2 c3 c4 c5 c6 c7
  go_enter Tryd.func64, Tryd.ntmps64
  go_wp2_with fail
  refine (HT.out).mono ?_
  rintro e w1 ⟨rfl, r1, g1⟩
  obtain ⟨s1, bb, r2⟩ := rx_bad r1
  obtain ⟨m0, m1, n0, n1⟩ := rr_facts r2
  have R2 := Lib.hid r2
  have G1 := Lib.hid g1
  clear r1 g1 r2
  have HB0 := HNW.out _ G1.out
  have HB := Lib.hid ((Below.heap_setCell w1 ⟨R, 1, none⟩ (.bool true) w.heap.size (by have := HG.out; show w.heap.size ≠ R; omega)).trans HB0)
  clear HB0
  have q0 : (w1.setCell ⟨R, 1, none⟩ (.bool true)).cell? ⟨w.heap.size, 0, none⟩ = some (.int .i64 0) := by simp [World.cell?, HB.out]
  have q1 : (w1.setCell ⟨R, 1, none⟩ (.bool true)).cell? ⟨w.heap.size, 1, none⟩ = some (.int .i64 0) := by simp [World.cell?, HB.out]
  have q2 : (w1.setCell ⟨R, 1, none⟩ (.bool true)).cell? ⟨w.heap.size, 2, none⟩ = some (.string ByteArray.empty) := by simp [World.cell?, HB.out]
  have q3 : (w1.setCell ⟨R, 1, none⟩ (.bool true)).cell? ⟨w.heap.size, 3, none⟩ = some (.float .f64 0) := by simp [World.cell?, HB.out]
  have f0 : (w1.setCell ⟨R, 1, none⟩ (.bool true)).frozen? ⟨w.heap.size, 0, none⟩ = false := by simp [World.frozen?, HB.out]
  have f1 : (w1.setCell ⟨R, 1, none⟩ (.bool true)).frozen? ⟨w.heap.size, 1, none⟩ = false := by simp [World.frozen?, HB.out]
  have f2 : (w1.setCell ⟨R, 1, none⟩ (.bool true)).frozen? ⟨w.heap.size, 2, none⟩ = false := by simp [World.frozen?, HB.out]
  have f3 : (w1.setCell ⟨R, 1, none⟩ (.bool true)).frozen? ⟨w.heap.size, 3, none⟩ = false := by simp [World.frozen?, HB.out]
  go_wp2_with fail
  refine value_end rfl rfl (cells4_at HB.out _ _ _ _) rfl ?_
  refine ⟨⟨0, 0, ByteArray.empty, 0⟩, rfl, (fun p r h => by cases h), rx4 HG.out (o := none) ⟨s1, rr_set1 R2.out true⟩ _ _ _ _, grown4 BA.out (G1.out.trans (grownBy_set _ R 1 _)) _ _ _ _⟩
end Go.Proofs.YteigbejidfkhpaaDoor

/- The reference's table: plain laws of its two inner loops. -/
namespace Go.Proofs.YteigbejidfkhpaaDoor
open Go Go.RowKit
set_option linter.unusedSimpArgs false
set_option linter.unusedVariables false

/-- What is left behind the first k items' names have been looked at: none if one is the new one's. -/
def dupX (p : Prp) (l : List Prp) (o : Option ByteArray) : Option ByteArray := if freshB p l = true then o else none
theorem dup_nil (p : Prp) (o : Option ByteArray) : dupX p [] o = o := rfl
theorem fresh_snoc (p x : Prp) (l : List Prp) : freshB p (l ++ [x]) = (freshB p l && decide (x.nm ≠ p.nm)) := by
  unfold freshB
  rw [List.all_append]
  simp
theorem dup_yes {p x : Prp} {l : List Prp} {o : Option ByteArray} (h : x.nm = p.nm) : dupX p (l ++ [x]) o = none := by
  unfold dupX
  rw [fresh_snoc, h]
  simp
theorem dup_no {p x : Prp} {l : List Prp} {o : Option ByteArray} (h : x.nm ≠ p.nm) : dupX p (l ++ [x]) o = dupX p l o := by
  unfold dupX
  rw [fresh_snoc]
  simp [h]
/-- The new list so far, and whether the new one is in it. -/
def insT (p : Prp) : List Prp → List Prp × Bool → List Prp × Bool
  | [], s => s
  | x :: r, s => insT p r (if s.2 = false ∧ Go.Op.bytesLess p.nm.toList x.nm.toList = true then (s.1 ++ [p, x], true) else (s.1 ++ [x], s.2))
theorem insT_snoc (p x : Prp) : ∀ (l : List Prp) (s : List Prp × Bool), insT p (l ++ [x]) s = (if (insT p l s).2 = false ∧ Go.Op.bytesLess p.nm.toList x.nm.toList = true then ((insT p l s).1 ++ [p, x], true) else ((insT p l s).1 ++ [x], (insT p l s).2))
  | [], s => rfl
  | y :: r, s => by
    show insT p (r ++ [x]) _ = _
    rw [insT_snoc p x r]
    rfl
theorem insT_true (p : Prp) : ∀ (l m : List Prp), insT p l (m, true) = (m ++ l, true)
  | [], m => by simp [insT]
  | x :: r, m => by
    show insT p r _ = _
    rw [if_neg (by simp), insT_true p r]
    simp
theorem insT_end (p : Prp) : ∀ (l m : List Prp), (if (insT p l (m, false)).2 = true then (insT p l (m, false)).1 else (insT p l (m, false)).1 ++ [p]) = m ++ insP p l
  | [], m => by simp [insT, insP]
  | x :: r, m => by
    by_cases h : Go.Op.bytesLess p.nm.toList x.nm.toList = true
    · have e1 : insT p (x :: r) (m, false) = (m ++ [p, x] ++ r, true) := by
        show insT p r _ = _
        rw [if_pos ⟨rfl, h⟩, insT_true]
      have e2 : insP p (x :: r) = p :: x :: r := if_pos h
      rw [e1, e2, if_pos rfl]
      simp
    · have e1 : insT p (x :: r) (m, false) = insT p r (m ++ [x], false) := by
        show insT p r _ = _
        rw [if_neg (fun k => h k.2)]
      have e2 : insP p (x :: r) = x :: insP p r := if_neg h
      rw [e1, e2, insT_end p r (m ++ [x])]
      simp
theorem insT_len (p : Prp) : ∀ (l : List Prp) (s : List Prp × Bool), (insT p l s).1.length ≤ s.1.length + 2 * l.length
  | [], s => Nat.le_refl _
  | x :: r, s => by
    unfold insT
    have a := insT_len p r (if s.2 = false ∧ Go.Op.bytesLess p.nm.toList x.nm.toList = true then (s.1 ++ [p, x], true) else (s.1 ++ [x], s.2))
    refine Nat.le_trans a ?_
    split <;> simp only [List.length_append, List.length_cons, List.length_nil] <;> omega
theorem insT_mem (p : Prp) : ∀ (l : List Prp) (s : List Prp × Bool), ∀ q ∈ (insT p l s).1, q = p ∨ q ∈ l ∨ q ∈ s.1
  | [], s, q, h => .inr (.inr h)
  | x :: r, s, q, h => by
    unfold insT at h
    rcases insT_mem p r _ q h with h | h | h
    · exact .inl h
    · exact .inr (.inl (List.mem_cons_of_mem _ h))
    · split at h
      · simp only [List.mem_append, List.mem_cons, List.not_mem_nil, or_false] at h
        rcases h with h | h | h
        · exact .inr (.inr h)
        · exact .inl h
        · exact .inr (.inl (by rw [h]; exact List.mem_cons_self ..))
      · simp only [List.mem_append, List.mem_cons, List.not_mem_nil, or_false] at h
        rcases h with h | h
        · exact .inr (.inr h)
        · exact .inr (.inl (by rw [h]; exact List.mem_cons_self ..))
theorem insP_len (p : Prp) (l : List Prp) : (insP p l).length = l.length + 1 := (insP_perm p l).length_eq
/-- What is behind an item. -/
def itemL (y : ByteArray) : Option ByteArray := leftX (((leftX ((some y).bind shortP))).bind valP)
theorem itemL_eq (y : ByteArray) : itemL y = leftX (itemP y) := by
  unfold itemL itemP
  rw [Option.bind_some]
  cases shortP y with
  | none => rfl
  | some q =>
    show leftX ((some q.2).bind valP) = leftX ((some q).bind _)
    rw [Option.bind_some, Option.bind_some]
    cases valP q.2 <;> rfl
theorem refIn_no {y : ByteArray} {acc : List Prp} (h : y.size ≠ 0) (hi : itemL y = none) : refIn y acc = none := by
  rw [itemL_eq] at hi
  refine refIn_bad h ?_ acc
  cases hy : itemP y with
  | none => rfl
  | some q => rw [hy] at hi; cases hi
theorem canonR_lt {n : Nat} (h : n < 18446744073709551616) : canonR n < 18446744073709551616 := by
  unfold canonR
  split
  · decide
  · exact h
theorem widR_lt (n : Nat) (w : World) : widR n < 18446744073709551616 := by
  obtain ⟨b, _, _, _, h, hb⟩ := to64_any2 n w
  rw [← h]
  exact canonR_lt hb
theorem valP_r (w : World) {s r : ByteArray} {v : Vl} (h : valP s = some (v, r)) : v.r < 18446744073709551616 := by
  unfold valP at h
  obtain ⟨q0, h0, h⟩ := Option.bind_eq_some_iff.1 h
  obtain ⟨x, r0⟩ := q0
  dsimp only at h
  unfold valQ at h
  have key : ∀ {k : Nat} {f : Nat → Vl} {a : ByteArray}, (∀ n, n < 256 ^ k → (f n).r < 18446744073709551616) → (numP k a).map (fun q => (f q.1, q.2)) = some (v, r) → v.r < 18446744073709551616 := by
    intro k f a hf h
    obtain ⟨q, h1, h2⟩ := Option.map_eq_some_iff.1 h
    obtain ⟨n, y⟩ := q
    injection h2 with h2 _
    rw [← h2]
    exact hf _ (numP_lt h1)
  have z : (0 : Nat) < 18446744073709551616 := by decide
  (repeat' split at h)
  · exact key (f := fun n => ⟨2, n, ByteArray.empty, 0⟩) (fun _ _ => z) h
  · exact key (f := fun n => ⟨1, sgn 8 n, ByteArray.empty, 0⟩) (fun _ _ => z) h
  · exact key (f := fun n => ⟨1, sgn 16 n, ByteArray.empty, 0⟩) (fun _ _ => z) h
  · exact key (f := fun n => ⟨1, sgn 32 n, ByteArray.empty, 0⟩) (fun _ _ => z) h
  · exact key (f := fun n => ⟨1, sgn 64 n, ByteArray.empty, 0⟩) (fun _ _ => z) h
  · exact key (f := fun n => ⟨4, 0, ByteArray.empty, widR n⟩) (fun n _ => widR_lt n w) h
  · exact key (f := fun n => ⟨4, 0, ByteArray.empty, canonR n⟩) (fun n hn => canonR_lt hn) h
  · obtain ⟨q, h1, h2⟩ := Option.map_eq_some_iff.1 h
    injection h2 with h2 _
    rw [← h2]
    exact z
  · cases h
theorem tab_bind (o : Option ByteArray) : o.bind tableP = (o.bind longP).bind fun p => ((refIn p.1 []).bind fun o => if validB o = true then some o else none).map fun l => (l, p.2) := by
  cases o with
  | none => rfl
  | some s => rw [Option.bind_some, tableP_ref, Option.bind_some]
theorem tab_bad1 {o : Option ByteArray} {O : Option (ByteArray × ByteArray)} {x : ByteArray} (hO : O = o.bind longP) (hx : x = outX ByteArray.empty O) (h : refIn x [] = none) : o.bind tableP = none := by
  rw [tab_bind, ← hO]
  cases O with
  | none => rfl
  | some q =>
    have : x = q.1 := hx
    subst this
    rw [Option.bind_some, h]
    rfl
theorem tab_bad2 {o : Option ByteArray} {O : Option (ByteArray × ByteArray)} {x : ByteArray} {acc : List Prp} (hO : O = o.bind longP) (hx : x = outX ByteArray.empty O) (h : refIn x [] = some acc) (hv : validB acc = false) : o.bind tableP = none := by
  rw [tab_bind, ← hO]
  cases O with
  | none => rfl
  | some q =>
    have : x = q.1 := hx
    subst this
    rw [Option.bind_some, h, Option.bind_some, hv]
    rfl
theorem tab_good {o : Option ByteArray} {O : Option (ByteArray × ByteArray)} {x : ByteArray} {acc : List Prp} (hO : O = o.bind longP) (hx : x = outX ByteArray.empty O) (h : refIn x [] = some acc) (hv : validB acc = true) : outX [] (o.bind tableP) = acc ∧ leftX (o.bind tableP) = leftX O := by
  rw [tab_bind, ← hO]
  cases O with
  | none =>
    have : x = ByteArray.empty := hx
    subst this
    rw [refIn_end rfl] at h
    injection h with h
    exact ⟨h, rfl⟩
  | some q =>
    have : x = q.1 := hx
    subst this
    rw [Option.bind_some, h, Option.bind_some, hv]
    exact ⟨rfl, rfl⟩
/-- What the reading of an item makes. -/
theorem item_of {y y2 : ByteArray} {v : Vl} (hv : ∀ p r, (leftX ((some y).bind shortP)).bind valP = some (p, r) → v = p) (hl : leftX ((leftX ((some y).bind shortP)).bind valP) = some y2) :
    itemP y = some (⟨outX ByteArray.empty ((some y).bind shortP), v.k, v.n, v.t, v.r⟩, y2) := by
  unfold itemP
  rw [Option.bind_some] at hv hl ⊢
  cases hs : shortP y with
  | none => rw [hs] at hl; cases hl
  | some q =>
    rw [hs] at hv hl
    rw [show leftX (some q) = some q.2 from rfl, Option.bind_some] at hv hl
    rw [Option.bind_some]
    cases hw : valP q.2 with
    | none => rw [hw] at hl; cases hl
    | some z =>
      rw [hw] at hl
      have h1 := hv z.1 z.2 hw
      have h2 : z.2 = y2 := Option.some.inj hl
      subst h2
      rw [h1]
      rfl
theorem dup_some {p : Prp} {l : List Prp} {o : Option ByteArray} {y : ByteArray} (h : dupX p l o = some y) : o = some y ∧ freshB p l = true := by
  unfold dupX at h
  split at h
  · rename_i hf; exact ⟨h, hf⟩
  · cases h
/-- The reading of an item that ends it. -/
theorem in_stop {x y : ByteArray} {acc : List Prp} {p : Prp} {o : Option ByteArray} (ht : refIn x [] = refIn y acc) (hy : y.size ≠ 0) (hi : ∀ y2, o = some y2 → itemP y = some (p, y2)) (ho : o = itemL y) (hd : dupX p acc o = none) : refIn x [] = none := by
  rw [ht]
  cases hO : o with
  | none => exact refIn_no hy (ho.symm.trans hO)
  | some y2 =>
    rw [refIn_step hy (hi y2 hO)]
    refine if_neg fun k => ?_
    unfold dupX at hd
    rw [if_pos k.1, hO] at hd
    cases hd
theorem in_long {x y y2 : ByteArray} {acc : List Prp} {p : Prp} (ht : refIn x [] = refIn y acc) (hy : y.size ≠ 0) (hi : itemP y = some (p, y2)) (hl : 16 < acc.length) : refIn x [] = none := by
  rw [ht, refIn_step hy hi]
  exact if_neg fun k => by omega
theorem in_next {x y y2 : ByteArray} {acc : List Prp} {p : Prp} (ht : refIn x [] = refIn y acc) (hy : y.size ≠ 0) (hi : itemP y = some (p, y2)) (hf : freshB p acc = true) (hl : acc.length ≤ 16) : refIn x [] = refIn y2 (insP p acc) := by
  rw [ht, refIn_step hy hi]
  exact if_pos ⟨hf, hl⟩
theorem valid_17 {acc : List Prp} (h : 16 < acc.length) : validB acc = false := by
  cases hv : validB acc with
  | false => rfl
  | true => have := valid_len hv; omega
theorem itemP_r (w : World) {s r : ByteArray} {p : Prp} (h : itemP s = some (p, r)) : p.r < 18446744073709551616 := by
  unfold itemP at h
  obtain ⟨q, h1, h2⟩ := Option.bind_eq_some_iff.1 h
  obtain ⟨q2, h3, h4⟩ := Option.map_eq_some_iff.1 h2
  injection h4 with h4 h5
  rw [← h4]
  exact valP_r w (s := q.2) (v := q2.1) (r := q2.2) h3
end Go.Proofs.YteigbejidfkhpaaDoor

/- The reference's reader: the next table. -/
namespace Go.Proofs.YteigbejidfkhpaaDoor
open Go Go.RowKit
set_option linter.unusedSimpArgs false
set_option linter.unusedVariables false

def RTabPost (w : World) (R : Nat) (O : Option (List Prp × ByteArray)) (e : Ending) (w' : World) : Prop :=
  ∃ v, e = .returned v ∧ OwnP w' w.heap.size v (outX [] O) ∧ RX w' R (leftX O) ∧ w.grownBy w' (some R)
structure TJ (w1 wr : World) (G : Nat) (x : ByteArray) (v : Value) (acc : List Prp) (y : ByteArray) : Prop where
  rd : RR wr G y false
  own : wr.ownsRow w1.heap.size 48 5 v acc.length (acc.flatMap Prp.cells)
  bel : Below w1.heap.size w1 wr
  tot : refIn x [] = refIn y acc
  len : acc.length + y.size ≤ x.size
  nms : ∀ p ∈ acc, p.nm.size ≤ 140737488351232 ∧ p.r < 18446744073709551616
theorem rx_set1 {w : World} {R : Nat} {o : Option ByteArray} (h : RX w R o) : RX (w.setCell ⟨R, 1, none⟩ (.bool true)) R none := by
  obtain ⟨s, b, h⟩ := rx_bad h
  exact ⟨s, rr_set1 h true⟩
theorem rtab_bad {w w' : World} {R : Nat} {O : Option (List Prp × ByteArray)} (hO : O = none) (hr : RX w' R none) (hg : w.grownBy w' (some R)) : RTabPost w R O (.returned (.slice none 0 0)) w' := by
  subst hO
  exact ⟨_, rfl, .inl ⟨rfl, rfl⟩, hr, hg⟩
theorem rtab_good {w w' : World} {R : Nat} {O : Option (List Prp × ByteArray)} {acc : List Prp} {o : Option ByteArray} {v : Value} (h1 : outX [] O = acc ∧ leftX O = o) (hv : OwnP w' w.heap.size v acc) (hr : RX w' R o) (hg : w.grownBy w' (some R)) : RTabPost w R O (.returned v) w' := by
  obtain ⟨h1, h2⟩ := h1
  subst h1 h2
  exact ⟨v, rfl, hv, hr, hg⟩
/-- A reader's writes leave a row of properties. -/
theorem own_rx {w w' : World} {B n g : Nat} {v : Value} {xs : List Value} {o : Option ByteArray} (h : w.ownsRow B 48 5 v n xs) (hr : RX w g o) (hg : w.grownBy w' (some g)) : w'.ownsRow B 48 5 v n xs := by
  obtain ⟨s, b, hr⟩ := rx_bad hr
  exact own_other h hg (fun k hk e' => own_ne h hr (by decide) (by rw [hk]; injection e' with e'; rw [e']))
theorem rx_facts {w : World} {R : Nat} {o : Option ByteArray} (h : RX w R o) : ∃ s b, w.cell? ⟨R, 0, none⟩ = some (.string s) ∧ w.cell? ⟨R, 1, none⟩ = some (.bool b) ∧ w.frozen? ⟨R, 1, none⟩ = false := by
  obtain ⟨s, b, h⟩ := rx_bad h
  obtain ⟨a, c, d, e⟩ := rr_facts h
  exact ⟨s, b, a, c, e⟩

set_option maxRecDepth 1000000 in
set_option maxHeartbeats 8000000 in
theorem refTable_c {w : World} {R : Nat} {o : Option ByteArray} (h : RX w R o) (hs : ∀ s, o = some s → s.size ≤ 1073741824) :
    Calls Tryd.prog 39 #[.pointer (some ⟨R, 0, none⟩)] w (RTabPost w R (o.bind tableP)) := by
  have HL := Lib.hid (xLong_c h)
  have qs := store_float (P := Tryd.prog)
  have HRL := Lib.hid (rx_lt h)
  obtain ⟨O, hO⟩ : ∃ O, O = o.bind longP := ⟨_, rfl⟩
  obtain ⟨x, hx⟩ : ∃ x, x = outX ByteArray.empty O := ⟨_, rfl⟩
  have hxs : x.size ≤ 1073741824 := by
    rw [hx]
    cases hOc : O with
    | none => exact Nat.zero_le _
    | some q =>
      rw [hOc] at hO
      cases o with
      | none => cases hO
      | some s =>
        have := longP_size hO.symm
        have := hs s rfl
        show q.1.size ≤ _
        omega
  have HX := Lib.hid hxs
  have HB1 := Lib.hid (fun h => tab_bad1 hO hx h)
  have HB2 := Lib.hid (fun acc h hv => tab_bad2 (acc := acc) hO hx h hv)
  have HGD := Lib.hid (fun acc h hv => tab_good (acc := acc) hO hx h hv)
  rw [← hO] at HL
  unfold XPost at HL
  rw [← hx] at HL
  clear hO hx h hxs hs
  go_enter Tryd.func39, Tryd.ntmps39
  go_wp2_with fail
  refine (HL.out).mono ?_
  rintro e w1 ⟨rfl, r1, g1⟩
  have R1 := Lib.hid r1
  have G1 := Lib.hid g1
  clear r1 g1 HL
  go_wp2_with fail
  go_loopg [4] x.size (fun kx v wr => ∃ (acc : List Prp) (y : ByteArray), y.size ≤ kx ∧ Hid (TJ w1 wr w1.heap.size x v acc y))
  case atStart =>
    exact ⟨[], x, Nat.le_refl _, Lib.hid ⟨heap_alloc_new w1 _, (own_nil w1 w1.heap.size 48 5).alloc _, (Below.refl _ _).alloc (Nat.le_refl _) _, rfl, by simp, by simp⟩⟩
  case round =>
    obtain ⟨acc, y, hyk, HI⟩ := hrel
    obtain ⟨c0, c1, f0, f1⟩ := rr_facts HI.out.rd
    by_cases hy : y.size = 0
    · have htot := Lib.hid (show refIn x [] = some acc by rw [HI.out.tot, refIn_end hy])
      obtain rfl := ba_nil hy
      have HV := refValid_c (ownP_rpr (own_ownP HI.out.own)) HI.out.nms
      clear hy hyk
      cases hv : validB acc with
      | true =>
        rw [hv] at HV
        have HV' := Lib.hid HV
        have HVB := Lib.hid hv
        clear HV hv
        go_wp2_with fail
        refine (HV'.out).mono ?_
        rintro e w2 ⟨rfl, b2⟩
        go_wp2_with fail
        go_ret
        have B2 := HI.out.bel.trans (b2.mono HI.out.bel.size)
        have O2 := own_below HI.out.own b2
        exact rtab_good (HGD.out _ htot.out HVB.out) (ownP_lower (own_ownP O2) G1.out.size) (rx_below R1.out B2) (G1.out.trans (grownBy_below B2 _))
      | false =>
        rw [hv] at HV
        have HV' := Lib.hid HV
        have HVB := Lib.hid hv
        clear HV hv
        go_wp2_with fail
        refine (HV'.out).mono ?_
        rintro e w2 ⟨rfl, b2⟩
        have B2 := HI.out.bel.trans (b2.mono HI.out.bel.size)
        have R2 := Lib.hid (rx_below R1.out B2)
        obtain ⟨s', bb', d0, d1, d2⟩ := rx_facts R2.out
        go_wp2_with fail
        go_ret
        exact rtab_bad (HB2.out _ htot.out HVB.out) (rx_set1 R2.out) ((G1.out.trans (grownBy_below B2 _)).trans (grownBy_set _ R 1 _))
    · have hE := ne_nil y (by omega)
      have HY := Lib.hid hy
      have HS := Lib.hid (xShort_c (o := some y) HI.out.rd)
      clear hy
      go_wp2_with fail
      refine (HS.out).mono ?_
      rintro e w2 ⟨rfl, r2, g2⟩
      obtain ⟨nm, hnm⟩ : ∃ nm, nm = outX ByteArray.empty ((some y).bind shortP) := ⟨_, rfl⟩
      have hnms : nm.size ≤ 255 := by
        rw [hnm, Option.bind_some]
        cases hs2 : shortP y with
        | none => exact Nat.zero_le _
        | some q => exact (shortP_size (show shortP y = some (q.1, q.2) from hs2)).1
      rw [← hnm]
      have HNM := Lib.hid hnm
      have HNS := Lib.hid hnms
      have R2 := Lib.hid r2
      have G2 := Lib.hid g2
      clear r2 g2 hnm hnms c0 c1 f0 f1
      have hr2 : RX (w2.alloc (.cells #[.string nm, .int .i64 0, .int .i64 0, .string ⟨#[]⟩, .float .f64 0] 48)) w1.heap.size (leftX ((some y).bind shortP)) := rx_below R2.out (below_al1 _ _)
      have HV := Lib.hid (xValue_c hr2)
      have bal := Lib.hid (below_al1 w2 (.cells #[.string nm, .int .i64 0, .int .i64 0, .string ⟨#[]⟩, .float .f64 0] 48))
      have bI2 := Lib.hid (below_grown HI.out.bel G2.out (Nat.le_refl _) HI.out.bel.size)
      clear hr2
      go_wp2_with fail
      refine (HV.out).mono ?_
      rintro e w3 ⟨vv, rfl, hvv, r3, g3⟩
      unfold Vl.val
      have hpb : w3.heap[w2.heap.size]? = some (.cells #[.string nm, .int .i64 0, .int .i64 0, .string ⟨#[]⟩, .float .f64 0] 48 (0, 0)) := by
        rw [g3.block w2.heap.size (by simp) (fun e => by injection e with e; have := rx_lt R2.out; omega)]
        exact heap_alloc_new w2 _
      have q0 : w3.cell? ⟨w2.heap.size, 0, none⟩ = some (.string nm) := by simp [World.cell?, hpb]
      have q1 : w3.cell? ⟨w2.heap.size, 1, none⟩ = some (.int .i64 0) := by simp [World.cell?, hpb]
      have q2 : w3.cell? ⟨w2.heap.size, 2, none⟩ = some (.int .i64 0) := by simp [World.cell?, hpb]
      have q3 : w3.cell? ⟨w2.heap.size, 3, none⟩ = some (.string ⟨#[]⟩) := by simp [World.cell?, hpb]
      have q4 : w3.cell? ⟨w2.heap.size, 4, none⟩ = some (.float .f64 0) := by simp [World.cell?, hpb]
      have f0' : ∀ j, w3.frozen? ⟨w2.heap.size, j, none⟩ = false := fun j => by simp [World.frozen?, hpb]
      have f1 := f0' 1
      have f2 := f0' 2
      have f3 := f0' 3
      have f4 := f0' 4
      have HPB := Lib.hid hpb
      have R3 := Lib.hid r3
      have G3 := Lib.hid g3
      have HVV := Lib.hid hvv
      clear hpb f0' r3 g3 hvv
      go_upto_region 6 with fail
      obtain ⟨W, hW⟩ : ∃ W, W = ((((w3.setCell ⟨w2.heap.size, 1, none⟩ (.int .i64 vv.k)).setCell ⟨w2.heap.size, 2, none⟩ (.int .i64 vv.n)).setCell ⟨w2.heap.size, 3, none⟩ (.string vv.t)).setCell ⟨w2.heap.size, 4, none⟩ (.float .f64 vv.r)) := ⟨_, rfl⟩
      have o2 := own_rx (o := some y) HI.out.own HI.out.rd G2.out
      have hne : u4.ownBlock ≠ some w2.heap.size := fun e => by have := own_lt o2 e; omega
      have o3 := own_rx (o2.alloc (.cells #[.string nm, .int .i64 0, .int .i64 0, .string ⟨#[]⟩, .float .f64 0] 48)) (rx_below R2.out bal.out) G3.out
      have hbm : w1.heap.size ≤ w2.heap.size := bI2.out.size
      have hgl : w1.heap.size < w2.heap.size := rx_lt R2.out
      have hgp : w1.heap.size ≠ w2.heap.size := by omega
      have bI3 := below_grown (bI2.out.trans (bal.out.mono bI2.out.size)) G3.out (Nat.le_refl _) (Nat.le_trans bI2.out.size bal.out.size)
      have OW := Lib.hid (show W.ownsRow w1.heap.size 48 5 u4 acc.length (acc.flatMap Prp.cells) by rw [hW]; exact own_set (own_set (own_set (own_set o3 hne 1 _) hne 2 _) hne 3 _) hne 4 _)
      have RW := Lib.hid (show RX W w1.heap.size (leftX ((leftX ((some y).bind shortP)).bind valP)) by rw [hW]; exact rx_other (rx_other (rx_other (rx_other R3.out hgp 1 _) hgp 2 _) hgp 3 _) hgp 4 _)
      have BW := Lib.hid (show Below w1.heap.size w1 W by rw [hW]; exact below_set (below_set (below_set (below_set bI3 hbm 1 _) hbm 2 _) hbm 3 _) hbm 4 _)
      have hPB : PB W w2.heap.size ⟨nm, vv.k, vv.n, vv.t, vv.r⟩ := by rw [hW]; exact pb_set HPB.out
      rw [← hW]
      obtain ⟨p, hp⟩ : ∃ p : Prp, p = ⟨nm, vv.k, vv.n, vv.t, vv.r⟩ := ⟨_, rfl⟩
      obtain ⟨O3, hO3⟩ : ∃ O3, O3 = leftX ((leftX ((some y).bind shortP)).bind valP) := ⟨_, rfl⟩
      have HIT := Lib.hid (show ∀ y2, O3 = some y2 → itemP y = some (p, y2) from fun y2 h => by rw [hO3] at h; rw [item_of HVV.out h, ← HNM.out, hp])
      have HOL := Lib.hid (show O3 = itemL y from hO3)
      rw [← hp] at hPB
      rw [← hO3] at RW
      have HPN := Lib.hid (show p.nm.size ≤ 255 by rw [hp]; exact HNS.out)
      have HPW := Lib.hid hPB
      have HGL := Lib.hid hgl
      have HWL := Lib.hid (rx_lt RW.out)
      obtain ⟨A, c, rfl, hAc, hcell⟩ := props_at (ownP_rpr (own_ownP OW.out))
      clear hW o2 hne o3 hbm hgl hgp bI3 hPB hp hO3 hcell q0 q1 q2 q3 q4 f1 f2 f3 f4 bI2 bal HV HPB R3 G3 R2 G2 HVV HNM HNS HS
      have hal : acc.length ≤ 1073741824 := by have := HX.out; have := HI.out.len; omega
      go_wp2_with fail
      go_loopw [36] (fun i wr => ∃ k : Nat, k ≤ acc.length ∧ i = .int .i64 k ∧ Hid (RX wr w1.heap.size (dupX p (acc.take k) O3)) ∧ Hid (W.grownBy wr (some w1.heap.size))) (fun i _ => acc.length - (intOf i).toNat)
      case atStart => exact ⟨0, Nat.zero_le _, rfl, Lib.hid RW.out, Lib.hid (World.grownBy.refl W _)⟩
      case round =>
        obtain ⟨k, hk, rfl, RK, GK⟩ := hrel
        have hpb := Lib.hid (show PB wr w2.heap.size p by unfold PB; rw [GK.out.block _ (pb_lt HPW.out) (fun e => by injection e with e; have := HGL.out; omega)]; exact HPW.out)
        obtain ⟨y0, _, _, _, _⟩ := pb_facts hpb.out
        have OK := Lib.hid (own_rx OW.out RW.out GK.out)
        by_cases hlt : k < acc.length
        · obtain ⟨p', hp'⟩ : ∃ p', acc[k]? = some p' := ⟨_, List.getElem?_eq_getElem hlt⟩
          obtain ⟨A', c', he, _, hcell⟩ := props_at (ownP_rpr (own_ownP OK.out))
          injection he with e1 e2 e3
          subst e1 e3
          obtain ⟨a, rfl, g0, g1', g2', g3', g4'⟩ := hcell k p' hp'
          have HP' := Lib.hid hp'
          have HLT := Lib.hid hlt
          have hltI : (k : Int) < acc.length := by omega
          have hk0 : (0 : Int) ≤ k := by omega
          have hts : acc.take (k + 1) = acc.take k ++ [p'] := by rw [List.take_add_one, hp']; rfl
          have HTS := Lib.hid hts
          clear hp' hcell hlt hts e2
          obtain ⟨WA, hWA⟩ : ∃ WA, WA = wr.alloc (.cells #[.string p'.nm, .int .i64 p'.k, .int .i64 p'.n, .string p'.t, .float .f64 p'.r] 48) := ⟨_, rfl⟩
          have hbA : Below wr.heap.size wr WA := by rw [hWA]; exact below_al1 _ _
          have x0 : WA.cell? ⟨wr.heap.size, 0, none⟩ = some (.string p'.nm) := by rw [hWA]; exact (pb_facts (pb_new wr p')).1
          have y1 : WA.cell? ⟨w2.heap.size, 0, none⟩ = some (.string p.nm) := by rw [hWA]; exact (pb_facts (pb_alloc hpb.out _)).1
          have RA := Lib.hid (rx_below RK.out hbA)
          have GA := Lib.hid (GK.out.trans (grownBy_below hbA (some w1.heap.size)))
          obtain ⟨s', bb', d0, d1, d2⟩ := rx_facts RA.out
          go_upto_region 9 with fail
          rw [← hWA]
          have HWA := Lib.hid hWA
          clear hWA hbA y0 g0 g1' g2' g3' g4' d0
          by_cases hd : p'.nm = p.nm
          · rw [hd] at x0
            have HD := Lib.hid hd
            clear hd
            go_wp2_with fail
            go_roundw
            case rel => exact ⟨k + 1, HLT.out, by go_num, Lib.hid (by rw [HTS.out, dup_yes HD.out]; exact rx_set1 RA.out), Lib.hid (GA.out.trans (grownBy_set _ _ 1 _))⟩
            case measure => have := HLT.out; simp [intOf]; omega
          · have hd' := str_ne hd
            have HD := Lib.hid hd
            clear hd
            go_wp2_with fail
            go_roundw
            case rel => exact ⟨k + 1, HLT.out, by go_num, Lib.hid (by rw [HTS.out, dup_no HD.out]; exact RA.out), GA⟩
            case measure => have := HLT.out; simp [intOf]; omega
        · obtain rfl : k = acc.length := by omega
          have htk : acc.take acc.length = acc := List.take_of_length_le (Nat.le_refl _)
          rw [htk] at RK
          clear htk hlt hk
          obtain ⟨o4, ho4⟩ : ∃ o4, o4 = dupX p acc O3 := ⟨_, rfl⟩
          rw [← ho4] at RK
          have HO4 := Lib.hid ho4
          clear ho4
          cases o4 with
          | none =>
            have hno := Lib.hid (in_stop HI.out.tot HY.out HIT.out HOL.out HO4.out.symm)
            obtain ⟨s', hR⟩ := RK.out
            obtain ⟨d0, d1, d2, d3⟩ := rr_facts hR
            have HR := Lib.hid hR
            clear hR d0 d2 d3
            have BB := Lib.hid (below_grown BW.out GK.out (Nat.le_refl _) BW.out.size)
            have R2 := Lib.hid (rx_below R1.out BB.out)
            obtain ⟨s3, bb3, e0, e1, e2⟩ := rx_facts R2.out
            go_wp2_with fail
            go_ret
            exact rtab_bad (HB1.out hno.out) (rx_set1 R2.out) ((G1.out.trans (grownBy_below BB.out _)).trans (grownBy_set _ R 1 _))
          | some y2 =>
            have hdo := dup_some HO4.out.symm
            have HF := Lib.hid hdo.2
            have HIY := Lib.hid (HIT.out y2 hdo.1)
            obtain ⟨d0, d1, d2, d3⟩ := rr_facts (show RR wr w1.heap.size y2 false from RK.out)
            clear hdo d0 d2 d3
            have BB := Lib.hid (below_grown BW.out GK.out (Nat.le_refl _) BW.out.size)
            by_cases h16 : 16 < acc.length
            · have h16' : (16 : Int) < acc.length := by omega
              have HV := refValid_c (ownP_rpr (own_ownP OK.out)) HI.out.nms
              rw [valid_17 h16] at HV
              have HV' := Lib.hid HV
              have hno := Lib.hid (in_long HI.out.tot HY.out HIY.out h16)
              clear HV h16
              go_wp2_with fail
              refine (HV'.out).mono ?_
              rintro e w5 ⟨rfl, b5⟩
              have B5 := Lib.hid (BB.out.trans (b5.mono BB.out.size))
              have R2 := Lib.hid (rx_below R1.out B5.out)
              obtain ⟨s3, bb3, e0, e1, e2⟩ := rx_facts R2.out
              clear b5
              go_wp2_with fail
              go_ret
              exact rtab_bad (HB1.out hno.out) (rx_set1 R2.out) ((G1.out.trans (grownBy_below B5.out _)).trans (grownBy_set _ R 1 _))
            · have h16' : (acc.length : Int) ≤ 16 := by omega
              have H16 := Lib.hid (show acc.length ≤ 16 by omega)
              have hnx := Lib.hid (in_next HI.out.tot HY.out HIY.out HF.out H16.out)
              obtain ⟨w4, hw4⟩ : ∃ w4, w4 = wr := ⟨_, rfl⟩
              have HW4 := Lib.hid hw4
              have OK4 : Hid (w4.ownsRow w1.heap.size 48 5 (.slice A acc.length c) acc.length (acc.flatMap Prp.cells)) := Lib.hid (by rw [hw4]; exact OK.out)
              have PB4 : Hid (PB w4 w2.heap.size p) := Lib.hid (by rw [hw4]; exact hpb.out)
              have RK4 : Hid (RX w4 w1.heap.size (some y2)) := Lib.hid (by rw [hw4]; exact RK.out)
              have BB4 : Hid (Below w1.heap.size w1 w4) := Lib.hid (by rw [hw4]; exact BB)
              have h16n : acc.length ≤ 16 := H16.out
              clear h16 hw4 GK OK hpb RK BB y0
              go_wp2_with fail
              go_loopw [8, 9, 60] (fun m l i wx => ∃ (k : Nat) (T : List Prp × Bool), k ≤ acc.length ∧ i = .int .i64 k ∧ Hid (T = insT p (acc.take k) ([], false)) ∧ l = .bool T.2 ∧ Hid (wx.ownsRow w4.heap.size 48 5 m T.1.length (T.1.flatMap Prp.cells)) ∧ Hid (Below w4.heap.size w4 wx)) (fun _ _ i _ => acc.length - (intOf i).toNat)
              case atStart => exact ⟨0, ([], false), Nat.zero_le _, rfl, Lib.hid rfl, rfl, Lib.hid (own_nil _ _ _ _), Lib.hid (by rw [HW4.out]; exact Below.refl _ _)⟩
              case round =>
                obtain ⟨k, ⟨T1, T2⟩, hk, rfl, HT, rfl, OM, BM⟩ := hrel
                have hTl : T1.length ≤ 40 := by
                  have h := insT_len p (acc.take k) ([], false)
                  rw [← HT.out, List.length_take] at h
                  simp only [List.length_nil] at h
                  omega
                have HTL := Lib.hid hTl
                have PX := Lib.hid (pb_below PB4.out BM.out (pb_lt PB4.out))
                by_cases hlt : k < acc.length
                · obtain ⟨p', hp'⟩ : ∃ p', acc[k]? = some p' := ⟨_, List.getElem?_eq_getElem hlt⟩
                  obtain ⟨A', c', he, _, hcell⟩ := props_at (ownP_rpr (own_ownP (own_below OK4.out BM.out)))
                  injection he with e1 e2 e3
                  subst e1 e3
                  obtain ⟨a, rfl, g0, g1', g2', g3', g4'⟩ := hcell k p' hp'
                  have HLT := Lib.hid hlt
                  have hltI : (k : Int) < acc.length := by omega
                  have hk0 : (0 : Int) ≤ k := by omega
                  have hts : acc.take (k + 1) = acc.take k ++ [p'] := by rw [List.take_add_one, hp']; rfl
                  have HST := Lib.hid (show insT p (acc.take (k + 1)) ([], false) = if T2 = false ∧ Go.Op.bytesLess p.nm.toList p'.nm.toList = true then (T1 ++ [p, p'], true) else (T1 ++ [p'], T2) by rw [hts, insT_snoc, ← HT.out])
                  clear hp' hcell hlt hts e2 hTl
                  obtain ⟨WA, hWA⟩ : ∃ WA, WA = wr.alloc (.cells #[.string p'.nm, .int .i64 p'.k, .int .i64 p'.n, .string p'.t, .float .f64 p'.r] 48) := ⟨_, rfl⟩
                  have BA := Lib.hid (show Below w4.heap.size w4 WA by rw [hWA]; exact BM.out.alloc BM.out.size _)
                  have OA := Lib.hid (show WA.ownsRow w4.heap.size 48 5 u8 T1.length (T1.flatMap Prp.cells) by rw [hWA]; exact OM.out.alloc _)
                  have PA := Lib.hid (show PB WA wr.heap.size p' by rw [hWA]; exact pb_new wr p')
                  have PP := Lib.hid (show PB WA w2.heap.size p by rw [hWA]; exact pb_alloc PX.out _)
                  have hou := Lib.hid (show ∀ j, u8.ownBlock = some j → j ≠ wr.heap.size from fun j hj => by have := own_lt OM.out hj; omega)
                  obtain ⟨x0, x1, x2, x3, x4⟩ := pb_facts PA.out
                  obtain ⟨y0, y1, y2', y3, y4⟩ := pb_facts PP.out
                  go_upto_region 18 with fail
                  rw [← hWA]
                  clear hWA g0 g1' g2' g3' g4'
                  cases T2 with
                  | true =>
                    rw [if_neg (by simp)] at HST
                    go_wp2_with (at_builtin; refine app_own (w0 := w4) w4.heap.size 24 48 5 56 _ Tryd.underlying24 info_prop rfl (by decide) rfl (.tmp 77) (.tmp 79) rfl u8 _ T1.length 1 (T1.flatMap Prp.cells) (Prp.cells p') rfl rfl (OA.out.alloc _) (prop_new WA p') (cells_one [p']) (BA.out.alloc BA.out.size _) (by have := HTL.out; first | omega | (simp only [List.length_append, List.length_cons, List.length_nil]; omega)) (by have := HTL.out; first | omega | (simp only [List.length_append, List.length_cons, List.length_nil]; omega)) (by have := BA.out.size; simp; omega) ?_; intro v5 w5 o5 b5 g5 _; have O5 := Lib.hid o5; have B5 := Lib.hid b5; have G5 := Lib.hid g5; clear o5 b5 g5)
                    go_roundw
                    case rel => exact ⟨k + 1, _, HLT.out, by go_num, Lib.hid HST.out.symm, rfl, Lib.hid (by have := O5.out; simpa using this), B5⟩
                    case measure => have := HLT.out; simp [intOf]; omega
                  | false =>
                    cases hls : Go.Op.bytesLess p.nm.toList p'.nm.toList with
                    | true =>
                      rw [if_pos ⟨rfl, hls⟩] at HST
                      go_upto_region 19 with fail
                      go_upto_region 20 with (at_builtin; refine app_own (w0 := w4) w4.heap.size 24 48 5 56 _ Tryd.underlying24 info_prop rfl (by decide) rfl (.tmp 73) (.tmp 75) rfl u8 _ T1.length 1 (T1.flatMap Prp.cells) (Prp.cells p) rfl rfl (OA.out.alloc _) (prop_new WA p) (cells_one [p]) (BA.out.alloc BA.out.size _) (by have := HTL.out; first | omega | (simp only [List.length_append, List.length_cons, List.length_nil]; omega)) (by have := HTL.out; first | omega | (simp only [List.length_append, List.length_cons, List.length_nil]; omega)) (by have := BA.out.size; simp; omega) ?_; intro v5 w5 o5 b5 g5 _; have O5 := Lib.hid o5; have B5 := Lib.hid b5; have G5 := Lib.hid g5; clear o5 b5 g5)
                      have O6 := Lib.hid (show w5.ownsRow w4.heap.size 48 5 v5 (T1 ++ [p]).length ((T1 ++ [p]).flatMap Prp.cells) from by rw [List.length_append, List.flatMap_append]; have := O5.out; simpa using this)
                      have PA5 := Lib.hid (show PB w5 wr.heap.size p' from by
                        unfold PB
                        rw [G5.out.block _ (by have := pb_lt PA.out; simp; omega) (fun e => hou.out _ e.symm rfl)]
                        exact pb_alloc PA.out _)
                      clear x0 x1 x2 x3 x4 y0 y1 y2' y3 y4
                      obtain ⟨x0, x1, x2, x3, x4⟩ := pb_facts PA5.out
                      go_wp2_with (at_builtin; refine app_own (w0 := w4) w4.heap.size 24 48 5 56 _ Tryd.underlying24 info_prop rfl (by decide) rfl (.tmp 77) (.tmp 79) rfl v5 _ (T1 ++ [p]).length 1 ((T1 ++ [p]).flatMap Prp.cells) (Prp.cells p') rfl rfl (O6.out.alloc _) (prop_new w5 p') (cells_one [p']) (B5.out.alloc B5.out.size _) (by have := HTL.out; first | omega | (simp only [List.length_append, List.length_cons, List.length_nil]; omega)) (by have := HTL.out; first | omega | (simp only [List.length_append, List.length_cons, List.length_nil]; omega)) (by have := B5.out.size; simp; omega) ?_; intro v7 w7 o7 b7 g7 _; have O7 := Lib.hid o7; have B7 := Lib.hid b7; have G7 := Lib.hid g7; clear o7 b7 g7)
                      go_roundw
                      case rel => exact ⟨k + 1, _, HLT.out, by go_num, Lib.hid HST.out.symm, rfl, Lib.hid (by have := O7.out; simpa using this), B7⟩
                      case measure => have := HLT.out; simp [intOf]; omega
                    | false =>
                      rw [if_neg (fun k => by have := k.2; rw [hls] at this; cases this)] at HST
                      go_wp2_with (at_builtin; refine app_own (w0 := w4) w4.heap.size 24 48 5 56 _ Tryd.underlying24 info_prop rfl (by decide) rfl (.tmp 77) (.tmp 79) rfl u8 _ T1.length 1 (T1.flatMap Prp.cells) (Prp.cells p') rfl rfl (OA.out.alloc _) (prop_new WA p') (cells_one [p']) (BA.out.alloc BA.out.size _) (by have := HTL.out; first | omega | (simp only [List.length_append, List.length_cons, List.length_nil]; omega)) (by have := HTL.out; first | omega | (simp only [List.length_append, List.length_cons, List.length_nil]; omega)) (by have := BA.out.size; simp; omega) ?_; intro v5 w5 o5 b5 g5 _; have O5 := Lib.hid o5; have B5 := Lib.hid b5; have G5 := Lib.hid g5; clear o5 b5 g5)
                      go_roundw
                      case rel => exact ⟨k + 1, _, HLT.out, by go_num, Lib.hid HST.out.symm, rfl, Lib.hid (by have := O5.out; simpa using this), B5⟩
                      case measure => have := HLT.out; simp [intOf]; omega
                · obtain rfl : k = acc.length := by omega
                  have htk : acc.take acc.length = acc := List.take_of_length_le (Nat.le_refl _)
                  have hen := insT_end p acc []
                  rw [htk] at HT
                  rw [← HT.out, List.nil_append] at hen
                  have HEN := Lib.hid hen
                  have HNQ := Lib.hid (show ∀ q ∈ insP p acc, q.nm.size ≤ 140737488351232 ∧ q.r < 18446744073709551616 from fun q hq => by
                    rcases List.mem_cons.1 ((insP_perm p acc).mem_iff.1 hq) with rfl | hq
                    · exact ⟨by have := HPN.out; omega, itemP_r w HIY.out⟩
                    · exact HI.out.nms q hq)
                  have hnew : ∀ (wN : World) (vN : Value), wN.ownsRow w4.heap.size 48 5 vN (insP p acc).length ((insP p acc).flatMap Prp.cells) → Below w4.heap.size w4 wN → TJ w1 wN w1.heap.size x vN (insP p acc) y2 := fun wN vN h1 h2 =>
                    ⟨rx_below (o := some y2) RK4.out h2, own_lower h1 BB4.out.size, BB4.out.trans (h2.mono BB4.out.size), hnx.out, by have := HI.out.len; have := (itemP_size HIY.out).1; rw [insP_len]; omega, HNQ.out⟩
                  have HNEW := Lib.hid hnew
                  clear htk hen hlt hk hTl hnew
                  obtain ⟨y0, y1, y2', y3, y4⟩ := pb_facts PX.out
                  cases T2 with
                  | true =>
                    have hE2 : T1 = insP p acc := by have := HEN.out; simpa using this
                    subst hE2
                    go_wp2_with fail
                    go_roundg y2.size
                    case measure => have := (itemP_size HIY.out).1; omega
                    case rel => exact ⟨insP p acc, y2, Nat.le_refl _, Lib.hid (HNEW.out _ _ OM.out BM.out)⟩
                  | false =>
                    have hE2 : T1 ++ [p] = insP p acc := by have := HEN.out; simpa using this
                    have HE2 := Lib.hid hE2
                    clear hE2
                    go_wp2_with (at_builtin; refine app_own (w0 := w4) w4.heap.size 24 48 5 56 _ Tryd.underlying24 info_prop rfl (by decide) rfl (.tmp 84) (.tmp 86) rfl u8 _ T1.length 1 (T1.flatMap Prp.cells) (Prp.cells p) rfl rfl (OM.out.alloc _) (prop_new wr p) (cells_one [p]) (BM.out.alloc BM.out.size _) (by have := HTL.out; first | omega | (simp only [List.length_append, List.length_cons, List.length_nil]; omega)) (by have := HTL.out; first | omega | (simp only [List.length_append, List.length_cons, List.length_nil]; omega)) (by have := BM.out.size; simp; omega) ?_; intro v5 w5 o5 b5 g5 _; have O5 := Lib.hid o5; have B5 := Lib.hid b5; have G5 := Lib.hid g5; clear o5 b5 g5)
                    go_roundg y2.size
                    case measure => have := (itemP_size HIY.out).1; omega
                    case rel => exact ⟨insP p acc, y2, Nat.le_refl _, Lib.hid (HNEW.out _ _ (by rw [← HE2.out, List.length_append, List.flatMap_append]; have := O5.out; simpa using this) B5.out)⟩
end Go.Proofs.YteigbejidfkhpaaDoor

/- The reference's Decode: what the reading keeps. -/
namespace Go.Proofs.YteigbejidfkhpaaDoor
open Go Go.RowKit Go.Sort
set_option linter.unusedSimpArgs false
set_option linter.unusedVariables false

theorem dec_bad {s : ByteArray} (h : leftX ((leftX ((some s).bind (numP 2))).bind (numP 2)) = none) : decP s = none := by
  rw [Option.bind_some] at h
  cases h1 : numP 2 s with
  | none => exact dec_no1 h1
  | some q =>
    obtain ⟨a, s1⟩ := q
    rw [h1] at h
    have h' : leftX (numP 2 s1) = none := h
    cases h2 : numP 2 s1 with
    | none => exact dec_no2 h1 h2
    | some q2 => rw [h2] at h'; cases h'
theorem dec_two {s r : ByteArray} (h : leftX ((leftX ((some s).bind (numP 2))).bind (numP 2)) = some r) :
    ∃ s1, numP 2 s = some (outX 0 ((some s).bind (numP 2)), s1) ∧ numP 2 s1 = some (outX 0 ((leftX ((some s).bind (numP 2))).bind (numP 2)), r) := by
  rw [Option.bind_some] at h ⊢
  cases h1 : numP 2 s with
  | none => rw [h1] at h; cases h
  | some q =>
    obtain ⟨a, s1⟩ := q
    rw [h1] at h
    have h' : leftX (numP 2 s1) = some r := h
    refine ⟨s1, rfl, ?_⟩
    show numP 2 s1 = some (outX 0 (numP 2 s1), r)
    cases h2 : numP 2 s1 with
    | none => rw [h2] at h'; cases h'
    | some q2 =>
      obtain ⟨b, r2⟩ := q2
      rw [h2] at h'
      injection h' with h'
      have h3 : r2 = r := h'
      rw [h3]
      rfl
/-- The run of what is left, if all was there. -/
def runO (l : List UInt8) (ns : List Int) (ts : List ByteArray) (ps : List Prp) (o : Option ByteArray) : Option DSt := o.bind fun r => runD l ⟨ns, ts, ps, r⟩
section
variable {x : UInt8} {l : List UInt8} {ns : List Int} {ts : List ByteArray} {ps : List Prp} {o : Option ByteArray} {z : Nat} {total : Option DSt}
theorem ro_num (ht : total = runO (x :: l) ns ts ps o) (hZ : z = sizeOf' x.toNat) (hz : 0 < z) (hq : outX 0 (o.bind (numP z)) < 9223372036854775808) : total = runO l (ns ++ [((outX 0 (o.bind (numP z)) : Nat) : Int)]) ts ps (leftX (o.bind (numP z))) := by
  rw [ht]
  cases o with
  | none => rfl
  | some r =>
    show (stepD x ⟨ns, ts, ps, r⟩).bind (runD l) = _
    rw [Option.bind_some] at hq ⊢
    cases h : numP z r with
    | none => rw [sd_num_none (st := ⟨ns, ts, ps, r⟩) hZ hz h]; rfl
    | some q =>
      obtain ⟨n, r'⟩ := q
      rw [h] at hq
      rw [sd_num_ok (st := ⟨ns, ts, ps, r⟩) hZ hz h hq]
      rfl
theorem ro_neg (ht : total = runO (x :: l) ns ts ps o) (hZ : z = sizeOf' x.toNat) (hz : 0 < z) (hq : ¬ outX 0 (o.bind (numP z)) < 9223372036854775808) : total = none := by
  rw [ht]
  cases o with
  | none => rfl
  | some r =>
    show (stepD x ⟨ns, ts, ps, r⟩).bind (runD l) = _
    rw [Option.bind_some] at hq
    cases h : numP z r with
    | none => rw [sd_num_none (st := ⟨ns, ts, ps, r⟩) hZ hz h]; rfl
    | some q =>
      obtain ⟨n, r'⟩ := q
      rw [h] at hq
      rw [sd_num_neg (st := ⟨ns, ts, ps, r⟩) hZ hz h hq]
      rfl
theorem ro_tab (ht : total = runO (x :: l) ns ts ps o) (hZ : 0 = sizeOf' x.toNat) (hx : x = 84) : total = runO l ns ts (outX [] (o.bind tableP)) (leftX (o.bind tableP)) := by
  rw [ht]
  cases o with
  | none => rfl
  | some r =>
    show (stepD x ⟨ns, ts, ps, r⟩).bind (runD l) = _
    rw [Option.bind_some, sd_tab hZ hx]
    dsimp only
    cases tableP r <;> rfl
theorem ro_short (ht : total = runO (x :: l) ns ts ps o) (hZ : 0 = sizeOf' x.toNat) (hx : x ≠ 84) (hs : x = 115) : total = runO l ns (ts ++ [outX ByteArray.empty (o.bind shortP)]) ps (leftX (o.bind shortP)) := by
  rw [ht]
  cases o with
  | none => rfl
  | some r =>
    show (stepD x ⟨ns, ts, ps, r⟩).bind (runD l) = _
    rw [Option.bind_some, sd_short hZ hx hs]
    dsimp only
    cases shortP r <;> rfl
theorem ro_long (ht : total = runO (x :: l) ns ts ps o) (hZ : 0 = sizeOf' x.toNat) (hx : x ≠ 84) (hs : x ≠ 115) (hy : (outX ByteArray.empty (o.bind longP)).size ≤ 1024) : total = runO l ns (ts ++ [outX ByteArray.empty (o.bind longP)]) ps (leftX (o.bind longP)) := by
  rw [ht]
  cases o with
  | none => rfl
  | some r =>
    show (stepD x ⟨ns, ts, ps, r⟩).bind (runD l) = _
    rw [Option.bind_some] at hy ⊢
    rw [sd_long hZ hx hs]
    dsimp only
    cases h : longP r with
    | none => rfl
    | some q =>
      rw [h] at hy
      have hy' : q.1.size ≤ 1024 := hy
      rw [Option.bind_some, if_pos hy']
      rfl
theorem ro_big (ht : total = runO (x :: l) ns ts ps o) (hZ : 0 = sizeOf' x.toNat) (hx : x ≠ 84) (hs : x ≠ 115) (hy : ¬ (outX ByteArray.empty (o.bind longP)).size ≤ 1024) : total = none := by
  rw [ht]
  cases o with
  | none => rfl
  | some r =>
    show (stepD x ⟨ns, ts, ps, r⟩).bind (runD l) = _
    rw [Option.bind_some] at hy
    rw [sd_long hZ hx hs]
    dsimp only
    cases h : longP r with
    | none => rfl
    | some q =>
      rw [h] at hy
      have hy' : ¬ q.1.size ≤ 1024 := hy
      rw [Option.bind_some, if_neg hy']
      rfl
end
theorem left_size {X : Type} {o : Option ByteArray} {f : ByteArray → Option (X × ByteArray)} (hf : ∀ s x r, f s = some (x, r) → r.size ≤ s.size) (h : ∀ r, o = some r → r.size ≤ 1073741824) : ∀ r, leftX (o.bind f) = some r → r.size ≤ 1073741824 := by
  intro r hr
  cases o with
  | none => cases hr
  | some s =>
    rw [Option.bind_some] at hr
    cases hs : f s with
    | none => rw [hs] at hr; cases hr
    | some q =>
      obtain ⟨x, r'⟩ := q
      rw [hs] at hr
      injection hr with hr
      have e : r' = r := hr
      have h1 := hf s x r' hs
      have h2 := h s rfl
      rw [← e]
      omega

structure DR (w wr : World) (G M : Nat) (c i : Int) (vn vt vp : Value) (ns : List Int) (ts : List ByteArray) (ps : List Prp) : Prop where
  mb : MB wr M c i vn vt vp
  oi : wr.ownsRow w.heap.size 3 1 vn ns.length (ns.map (Value.int .i64))
  os : wr.ownsRow w.heap.size 9 1 vt ts.length (ts.map Value.string)
  op : OwnP wr w.heap.size vp ps
  two : Two w wr G M
  di : ∀ k, vn.ownBlock = some k → vp.ownBlock ≠ some k
  ds : ∀ k, vt.ownBlock = some k → vp.ownBlock ≠ some k
structure LR (w : World) (G M : Nat) : Prop where
  g : G < w.heap.size
  m : M < w.heap.size
  gm : G ≠ M
theorem rx_kept {w w1 : World} {R : Nat} {o : Option ByteArray} {row : Option Nat} (h : RX w R o) (hg : w.grownBy w1 row) (hne : row ≠ some R) : RX w1 R o := by
  cases o with
  | none => obtain ⟨s, h⟩ := h; exact ⟨s, blk_kept h hg hne⟩
  | some s => exact blk_kept h hg hne
section
variable {w W W1 : World} {G M : Nat} {c i : Int} {vn vt vp : Value} {ns : List Int} {ts : List ByteArray} {ps : List Prp}
theorem DR.step (h : DR w W G M c i vn vt vp ns ts ps) (L : LR w G M) {row : Option Nat} (hg : W.grownBy W1 row) (hr : row = none ∨ row = some G) : DR w W1 G M c i vn vt vp ns ts ps := by
  have hG : ∀ k, row = some k → k = G := fun k e => by rcases hr with e2 | e2 <;> rw [e2] at e <;> cases e; rfl
  exact ⟨blk_kept h.mb hg (fun e => L.gm (hG _ e).symm),
    own_kept h.oi hg (fun k e => by rw [hG k e]; exact own_low h.oi L.g), own_kept h.os hg (fun k e => by rw [hG k e]; exact own_low h.os L.g), ownP_kept h.op hg (fun k e => by rw [hG k e]; exact ownP_low h.op L.g),
    h.two.grown hg (fun k e _ => .inl (hG k e)), h.di, h.ds⟩
theorem DR.below (h : DR w W G M c i vn vt vp ns ts ps) (L : LR w G M) (hb : Below W.heap.size W W1) : DR w W1 G M c i vn vt vp ns ts ps := h.step L (grownBy_below hb none) (.inl rfl)
theorem DR.set2 (h : DR w W G M c i vn vt vp ns ts ps) (L : LR w G M) {v1 : Value} {ns1 : List Int} (hg : W.grownBy W1 vn.ownBlock) (ho : W1.ownsRow w.heap.size 3 1 v1 ns1.length (ns1.map (Value.int .i64))) (hv : v1.ownBlock = vn.ownBlock ∨ v1.ownBlock = some W.heap.size) :
    DR w (W1.setCell ⟨M, 2, none⟩ v1) G M c i v1 vt vp ns1 ts ps := by
  have l2 := L.m
  have gm := set_m (M := M) W1 2 v1
  have nm : ∀ k, (some M : Option Nat) = some k → k = M := fun k e => by injection e with e; exact e.symm
  have o1 := own_kept h.os hg (fun k e => own_two h.oi h.os (by decide) k e)
  have p1 := ownP_kept h.op hg (fun k e => h.di k e)
  refine ⟨mb_set2 (blk_kept h.mb hg (own_low h.oi L.m)) v1,
    own_kept ho gm (fun k e => by rw [nm k e]; exact own_low ho L.m), own_kept o1 gm (fun k e => by rw [nm k e]; exact own_low o1 L.m), ownP_kept p1 gm (fun k e => by rw [nm k e]; exact ownP_low p1 L.m),
    (h.two.grown hg (fun k e hk => absurd e (own_low h.oi hk))).set 2 v1, fun k hk => ?_, h.ds⟩
  rcases hv with e | e
  · exact h.di k (e ▸ hk)
  · intro hp
    have := (ownP_lt h.op k hp).2
    rw [e] at hk
    injection hk with hk
    omega
theorem DR.set3 (h : DR w W G M c i vn vt vp ns ts ps) (L : LR w G M) {v1 : Value} {ts1 : List ByteArray} (hg : W.grownBy W1 vt.ownBlock) (ho : W1.ownsRow w.heap.size 9 1 v1 ts1.length (ts1.map Value.string)) (hv : v1.ownBlock = vt.ownBlock ∨ v1.ownBlock = some W.heap.size) :
    DR w (W1.setCell ⟨M, 3, none⟩ v1) G M c i vn v1 vp ns ts1 ps := by
  have l2 := L.m
  have gm := set_m (M := M) W1 3 v1
  have nm : ∀ k, (some M : Option Nat) = some k → k = M := fun k e => by injection e with e; exact e.symm
  have o1 := own_kept h.oi hg (fun k e => own_two h.os h.oi (by decide) k e)
  have p1 := ownP_kept h.op hg (fun k e => h.ds k e)
  refine ⟨mb_set3 (blk_kept h.mb hg (own_low h.os L.m)) v1,
    own_kept o1 gm (fun k e => by rw [nm k e]; exact own_low o1 L.m), own_kept ho gm (fun k e => by rw [nm k e]; exact own_low ho L.m), ownP_kept p1 gm (fun k e => by rw [nm k e]; exact ownP_low p1 L.m),
    (h.two.grown hg (fun k e hk => absurd e (own_low h.os hk))).set 3 v1, h.di, fun k hk => ?_⟩
  rcases hv with e | e
  · exact h.ds k (e ▸ hk)
  · intro hp
    have := (ownP_lt h.op k hp).2
    rw [e] at hk
    injection hk with hk
    omega
theorem DR.set4 (h : DR w W G M c i vn vt vp ns ts ps) (L : LR w G M) {v1 : Value} {ps1 : List Prp} (hg : W.grownBy W1 (some G)) (ho : OwnP W1 W.heap.size v1 ps1) :
    DR w (W1.setCell ⟨M, 4, none⟩ v1) G M c i vn vt v1 ns ts ps1 := by
  have l2 := L.m
  have h1 := h.step L hg (.inr rfl)
  have gm := set_m (M := M) W1 4 v1
  have nm : ∀ k, (some M : Option Nat) = some k → k = M := fun k e => by injection e with e; exact e.symm
  have hs := h.two.size
  refine ⟨mb_set4 h1.mb v1,
    own_kept h1.oi gm (fun k e => by rw [nm k e]; exact own_low h1.oi L.m), own_kept h1.os gm (fun k e => by rw [nm k e]; exact own_low h1.os L.m), ownP_kept (ownP_lower ho hs) gm (fun k e => by rw [nm k e]; exact ownP_low (ownP_lower ho hs) L.m),
    h1.two.set 4 v1, fun k hk hp => ?_, fun k hk hp => ?_⟩
  · have := (ownP_lt ho k hp).1
    have := own_lt h.oi hk
    omega
  · have := (ownP_lt ho k hp).1
    have := own_lt h.os hk
    omega
end
section
variable {ops : Array Oper} {rest : List Oper} {o : Oper} {a : Act} {Q : Exit → Act → World → Prop} {w W : World} {G M : Nat} {c i : Int} {vn vt vp : Value} {ns : List Int} {ts : List ByteArray} {ps : List Prp} {r : Option ByteArray}
theorem rapp_num (D : DR w W G M c i vn vt vp ns ts ps) (L : LR w G M) (R : RX W G r) (N : Int) (hl : ns.length ≤ 6)
    (hgd : o.guard = none) (s x : Operand) (ho : o.op = .call { callee := .builtin .append, args := #[s, x], argTypes := #[22, 22] }) (hs : a.eval s = vn) (hx : a.eval x = .slice (some ⟨W.heap.size, 0, none⟩) 1 1)
    (h : ∀ (A8 : Option Addr) (c8 : Nat) (w8 : World), MB w8 M c i vn vt vp → DR w (w8.setCell ⟨M, 2, none⟩ (.slice A8 (ns.length + 1) c8)) G M c i (.slice A8 (ns.length + 1) c8) vt vp (ns ++ [N]) ts ps → RX (w8.setCell ⟨M, 2, none⟩ (.slice A8 (ns.length + 1) c8)) G r → wpList Tryd.prog ops Q rest (a.put o.dst (.slice A8 (ns.length + 1) c8)) w8) :
    wpList Tryd.prog ops Q (o :: rest) a (W.alloc (.cells #[.int .i64 N] 3)) := by
  have DA := D.below L (below_al1 W (.cells #[.int .i64 N] 3))
  have hs0 := D.two.size
  refine app_own (w0 := W.alloc (.cells #[.int .i64 N] 3)) w.heap.size 22 3 1 8 _ Tryd.underlying22 info_i64 rfl (by decide) hgd s x ho vn _ ns.length 1 (ns.map (Value.int .i64)) [.int .i64 N] hs hx DA.oi (int_new W N) (fun y hy => by rw [List.mem_singleton.1 hy]; rfl) (Below.refl _ _) (by omega) (by omega) (Nat.le_trans hs0 (below_al1 W _).size) ?_
  intro v8 w8 o8 _ g8 e8
  obtain ⟨A8, c8, rfl⟩ := rc_any (own_rc o8)
  refine h A8 c8 w8 (blk_kept DA.mb g8 (own_low DA.oi L.m)) (DA.set2 L g8 (by rw [List.length_append, List.map_append]; exact o8) e8) ?_
  exact rx_kept (rx_kept (rx_below R (below_al1 W _)) g8 (own_low DA.oi L.g)) (grownBy_set w8 M 2 _) (fun e => L.gm (by injection e with e; exact e.symm))
theorem rapp_txt (D : DR w W G M c i vn vt vp ns ts ps) (L : LR w G M) (R : RX W G r) (y : ByteArray) (hl : ts.length ≤ 6)
    (hgd : o.guard = none) (s x : Operand) (ho : o.op = .call { callee := .builtin .append, args := #[s, x], argTypes := #[23, 23] }) (hs : a.eval s = vt) (hx : a.eval x = .slice (some ⟨W.heap.size, 0, none⟩) 1 1)
    (h : ∀ (A8 : Option Addr) (c8 : Nat) (w8 : World), MB w8 M c i vn vt vp → DR w (w8.setCell ⟨M, 3, none⟩ (.slice A8 (ts.length + 1) c8)) G M c i vn (.slice A8 (ts.length + 1) c8) vp ns (ts ++ [y]) ps → RX (w8.setCell ⟨M, 3, none⟩ (.slice A8 (ts.length + 1) c8)) G r → wpList Tryd.prog ops Q rest (a.put o.dst (.slice A8 (ts.length + 1) c8)) w8) :
    wpList Tryd.prog ops Q (o :: rest) a (W.alloc (.cells #[.string y] 9)) := by
  have DA := D.below L (below_al1 W (.cells #[.string y] 9))
  have hs0 := D.two.size
  refine app_own (w0 := W.alloc (.cells #[.string y] 9)) w.heap.size 23 9 1 16 _ Tryd.underlying23 info_str rfl (by decide) hgd s x ho vt _ ts.length 1 (ts.map Value.string) [.string y] hs hx DA.os (str_new W y) (fun z hy => by rw [List.mem_singleton.1 hy]; rfl) (Below.refl _ _) (by omega) (by omega) (Nat.le_trans hs0 (below_al1 W _).size) ?_
  intro v8 w8 o8 _ g8 e8
  obtain ⟨A8, c8, rfl⟩ := rc_any (own_rc o8)
  refine h A8 c8 w8 (blk_kept DA.mb g8 (own_low DA.os L.m)) (DA.set3 L g8 (by rw [List.length_append, List.map_append]; exact o8) e8) ?_
  exact rx_kept (rx_kept (rx_below R (below_al1 W _)) g8 (own_low DA.os L.g)) (grownBy_set w8 M 3 _) (fun e => L.gm (by injection e with e; exact e.symm))
theorem rstep_txt {KK : Act → World → Prop} {E : Prop} (D : DR w W G M c i vn vt vp ns ts ps) (L : LR w G M) (R : RX W G r) (y : ByteArray) (hl : ts.length ≤ 6)
    (hgd : o.guard = none) (s x : Operand) (ho : o.op = .call { callee := .builtin .append, args := #[s, x], argTypes := #[23, 23] }) (hs : a.eval s = vt) (hx : a.eval x = .slice (some ⟨W.heap.size, 0, none⟩) 1 1)
    (h : ∀ (A8 : Option Addr) (c8 : Nat) (w8 : World), MB w8 M c i vn vt vp → DR w (w8.setCell ⟨M, 3, none⟩ (.slice A8 (ts.length + 1) c8)) G M c i vn (.slice A8 (ts.length + 1) c8) vp ns (ts ++ [y]) ps → RX (w8.setCell ⟨M, 3, none⟩ (.slice A8 (ts.length + 1) c8)) G r → KK (a.put o.dst (.slice A8 (ts.length + 1) c8)) w8) :
    if Region.wanted o (yielded ops a.tmps) = true then Oper.wp Tryd.prog o a (W.alloc (.cells #[.string y] 9)) KK Q else E := by
  have DA := D.below L (below_al1 W (.cells #[.string y] 9))
  have hs0 := D.two.size
  refine step_app_own w.heap.size 23 9 1 16 _ Tryd.underlying23 info_str rfl (by decide) hgd s x ho vt _ ts.length 1 (ts.map Value.string) [.string y] hs hx DA.os (str_new W y) (fun z hy => by rw [List.mem_singleton.1 hy]; rfl) (by omega) (by omega) (Nat.le_trans hs0 (below_al1 W _).size) ?_
  intro v8 w8 o8 g8 e8
  obtain ⟨A8, c8, rfl⟩ := rc_any (own_rc o8)
  refine h A8 c8 w8 (blk_kept DA.mb g8 (own_low DA.os L.m)) (DA.set3 L g8 (by rw [List.length_append, List.map_append]; exact o8) e8) ?_
  exact rx_kept (rx_kept (rx_below R (below_al1 W _)) g8 (own_low DA.os L.g)) (grownBy_set w8 M 3 _) (fun e => L.gm (by injection e with e; exact e.symm))
end
end Go.Proofs.YteigbejidfkhpaaDoor
