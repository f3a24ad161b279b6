/- AframeChunks: the statement's walk. -/
import Derived.Test.YtbniandbmabdbaaDoorAfQ
import Derived.Deep.DeepCutAuto
import Derived.Deep.CutRange
import Derived.BigQuiet
namespace Go.Proofs.YtbniandbmabdbaaDoor
open Go Go.RowKit
set_option linter.unusedSimpArgs false
set_option linter.unusedVariables false

set_option maxRecDepth 100000 in
set_option maxHeartbeats 4000000 in
theorem aframeChunks_c {w : World} {v : Value} {fs : List Fr} (hF : RF w v fs) (hfl : fs.length ≤ 140737488351232) (cut : Int) :
    Calls Tryd.prog 4 #[v, .int .i64 cut] w fun e w' => e = .returned (.bool true) ∧ Below w.heap.size w w' := by
  obtain ⟨A, c, rfl, hnc, hcell⟩ := frames_at hF
  have HF := Lib.hid hF
  have HC := Lib.hid hcell
  clear hF hcell
  by_cases h40 : (40 : Int) < fs.length
  · go_enter Tryd.func4, Tryd.ntmps4
    go_wp2_with fail
    refine wakes_c.mono ?_
    rintro e w1 ⟨rfl, b1⟩
    go_wp2_with fail
    go_ret
    exact ⟨rfl, b1⟩
  · have h40' : (fs.length : Int) ≤ 40 := by omega
    clear h40
    go_enter Tryd.func4, Tryd.ntmps4
    go_wp2_with fail
    refine wakes_c.mono ?_
    rintro e w1 ⟨rfl, b1⟩
    go_wp2_with fail
    go_loopw [5, 6, 24] (fun x y i wr => ∃ k : Nat, k ≤ fs.length ∧ i = .int .i64 k ∧ Hid (∀ f ∈ fs.take k, f.ok = true ∧ f.p.size ≤ 4096) ∧ Hid (OB wr w.heap.size x (frsB (fs.take k))) ∧ Hid (OI wr w.heap.size y (endsK fs k)) ∧ Hid (Dis x y) ∧ Below w.heap.size w wr) (fun _ _ i _ => fs.length - (intOf i).toNat)
    case atStart => exact ⟨0, Nat.zero_le _, rfl, Lib.hid (fun f hf => by simp at hf), Lib.hid (ob_nil _ _), Lib.hid (own_nil _ _ _ _), Lib.hid (dis_nil _), b1⟩
    case round =>
      obtain ⟨k, hk, rfl, HG, HX, HY, HD, b2⟩ := hrel
      clear b1
      by_cases hlt : k < fs.length
      · obtain ⟨f, hf⟩ : ∃ f, fs[k]? = some f := ⟨_, List.getElem?_eq_getElem hlt⟩
        obtain ⟨a, rfl, q0, q1, q2⟩ := HC.out k f hf
        have p0 := cell_below b2 (World.block_lt_of_cell? w _ q0) q0
        have p1 := cell_below b2 (World.block_lt_of_cell? w _ q1) q1
        have p2 := cell_below b2 (World.block_lt_of_cell? w _ q2) q2
        have hts : fs.take (k + 1) = fs.take k ++ [f] := by rw [List.take_add_one, hf]; rfl
        have HTS := Lib.hid hts
        clear hf hts q0 q1 q2
        by_cases hp : (4096 : Int) < f.p.size
        · go_wp2_with fail
          go_ret
          exact ⟨rfl, b2.alloc b2.size _⟩
        · have hp' : (f.p.size : Int) ≤ 4096 := by omega
          have hps : f.p.size ≤ 140737488351232 := by omega
          have F0 := fb_new wr (.int .i64 f.t) (.int .i64 f.c) (.string f.p)
          have b3 := b2.alloc b2.size (.cells #[.int .i64 f.t, .int .i64 f.c, .string f.p] 23)
          have hX1 := HX.out.alloc (.cells #[.int .i64 f.t, .int .i64 f.c, .string f.p] 23)
          have hY1 := HY.out.alloc (.cells #[.int .i64 f.t, .int .i64 f.c, .string f.p] 23)
          clear hp
          go_wp2_with fail
          refine (encode_c f.t f.c f.p hps).mono ?_
          intro e w2 h2
          obtain ⟨b4, h2⟩ := h2
          by_cases hok : f.ok = true
          · rw [if_pos (show encOk f.t f.c f.p = true from hok)] at h2
            obtain ⟨v2, rfl, o2⟩ := h2
            have HK := Lib.hid hok
            have hX2 := Lib.hid (show OB w2 w.heap.size _ (frsB (fs.take k)) from own_below hX1 b4)
            have hY2 := Lib.hid (show OI w2 w.heap.size _ (endsK fs k) from own_below hY1 b4)
            have O2 := Lib.hid (show RB w2 v2 f.bytes from ob_rb o2)
            have B2 := Lib.hid (b3.trans (b4.mono b3.size))
            have hlen := frsB_len 4096 (fs.take k) (fun g hg => (HG.out g hg).2)
            have hlk : (frsB (fs.take k)).length ≤ 40 * 4104 := by
              have : (fs.take k).length ≤ 40 := by rw [List.length_take]; omega
              have h2 := Nat.mul_le_mul_right 4104 this
              exact Nat.le_trans hlen h2
            have hfl2 : f.bytes.length ≤ 4104 := by rw [fr_len]; omega
            clear hok hX1 hY1 b4 o2 b3 hlen F0
            go_wp2_with (first
              | (at_builtin; refine app_i (w0 := w) (base := w.heap.size) (l := endsK fs k) (m := [((frsB (fs.take (k + 1))).length : Int)]) rfl (.tmp 42) (.tmp 45) rfl rfl rfl (hY3.out.alloc _) (ri_one w3 _) (b5.alloc b5.size _) (by have := b5.size; simp; omega) (by rw [endsK_len]; simp; omega) ?_; intro v4 w4 o4 b6 g6 d6; rw [← endsK_succ] at o4; have hX4 := dis_own HD3.symm g6 (O3.out.alloc _); have HD4 := (dis_new HD3.symm (O3.out.alloc _) d6).symm; have O4 := Lib.hid o4; have X4 := Lib.hid (show OB w4 w.heap.size _ _ from hX4); clear o4 hX4 d6 g6)
              | (at_builtin; refine app_b (w0 := w) (base := w.heap.size) (l := frsB (fs.take k)) (m := f.bytes) rfl (.tmp 39) (.tmp 40) rfl rfl rfl hX2.out O2.out B2.out B2.out.size (by omega) ?_; intro v3 w3 o3 b5 g5 d5; have hY3 := Lib.hid (show OI w3 w.heap.size _ (endsK fs k) from dis_own HD.out g5 hY2.out); have HD3 := dis_new HD.out hY2.out d5; rw [← frsB_snoc, ← HTS.out] at o3; obtain ⟨A3, c3, hv3, _⟩ := id (ob_rb o3); rw [hv3] at o3 HD3; rw [hv3]; have O3 := Lib.hid o3; clear o3 hv3 d5 g5))
            go_roundw
            case rel => exact ⟨k + 1, by omega, by go_num, Lib.hid (fun g hg => by rw [HTS.out] at hg; rcases List.mem_append.1 hg with h | h; exact HG.out g h; (obtain rfl : g = f := by simpa using h); exact ⟨HK.out, by omega⟩), X4, O4, Lib.hid HD4, b6⟩
            case measure => simp [intOf]; omega
          · rw [if_neg (show ¬ encOk f.t f.c f.p = true from hok)] at h2
            subst h2
            go_wp2_with fail
            go_ret
            exact ⟨rfl, b3.trans (b4.mono b3.size)⟩
      · have hk2 : k = fs.length := by omega
        subst hk2
        have hta : fs.take fs.length = fs := List.take_of_length_le (Nat.le_refl _)
        rw [hta] at HG HX
        clear hlt hk hta HD
        obtain ⟨A1, c1, rfl, hc1, _⟩ := id (ob_rb HX.out)
        obtain ⟨A2, c2, rfl, hc2, hE⟩ := ri_at (own_rc HY.out)
        have hlen := frsB_len 4096 fs (fun g hg => (HG.out g hg).2)
        have hlk : (frsB fs).length ≤ 40 * 4104 := by
          have h2 := Nat.mul_le_mul_right 4104 (show fs.length ≤ 40 by omega)
          exact Nat.le_trans hlen h2
        have HLK := Lib.hid hlk
        have hq : ∃ (q : Nat) (b : Bool), (cut < 0 → b = true) ∧ (((frsB fs).length : Int) < cut → b = true) ∧ (0 ≤ cut → cut ≤ (frsB fs).length → b = false) ∧ (b = true → q = (frsB fs).length) ∧ (b = false → (q : Int) = cut) ∧ q ≤ (frsB fs).length := by
          by_cases h0 : cut < 0 ∨ ((frsB fs).length : Int) < cut
          · exact ⟨(frsB fs).length, true, fun _ => rfl, fun _ => rfl, fun h1 h2 => by omega, fun _ => rfl, (fun h => by cases h), Nat.le_refl _⟩
          · exact ⟨cut.toNat, false, fun _ => by omega, fun _ => by omega, fun h1 h2 => rfl, (fun h => by cases h), fun _ => by omega, by omega⟩
        obtain ⟨q, bb, hq1, hq2, hq3, hq4, hq5, hqL⟩ := hq
        have HQ1 := Lib.hid hq1
        have HQ2 := Lib.hid hq2
        have HQ3 := Lib.hid hq3
        have HQ4 := Lib.hid hq4
        have HQ5 := Lib.hid hq5
        clear hlk hlen hq1 hq2 hq3 hq4 hq5 hE
        go_upto_region 18 with fail
        go_cut [55] from 48 to 54 (fun s55 wx => s55 = .bool bb ∧ wx = wr)
        case first =>
          by_cases h0 : cut < 0
          · have e := HQ1.out h0
            go_wp2
            go_meet
            exact ⟨by rw [e], rfl⟩
          · by_cases h1 : ((frsB fs).length : Int) < cut
            · have e := HQ2.out h1
              have h0' : 0 ≤ cut := by omega
              clear h0
              go_wp2
              go_meet
              exact ⟨by rw [e], rfl⟩
            · have e := HQ3.out (by omega) (by omega)
              have h0' : 0 ≤ cut := by omega
              have h1' : cut ≤ (frsB fs).length := by omega
              clear h0 h1
              go_wp2
              go_meet
              exact ⟨by first | (rw [e]; done) | (rw [e, decide_eq_false (by omega), decide_eq_false (by omega)]; rfl), rfl⟩
        case rest =>
          obtain ⟨rfl, rfl⟩ := hcut
          go_upto_if 55 with fail
          go_cut [1] from 48 to 57 (fun s1 wx => s1 = .int .i64 q ∧ wx = wc)
          case first =>
            cases bb with
            | true =>
              have e := HQ4.out rfl
              go_wp2
              go_meet
              exact ⟨by rw [e], rfl⟩
            | false =>
              have e := HQ5.out rfl
              go_wp2
              go_meet
              exact ⟨by rw [e], rfl⟩
          case rest =>
            obtain ⟨rfl, rfl⟩ := hcut
            have hqI : (q : Int) ≤ (frsB fs).length := by omega
            have hqC : (q : Int) ≤ c1 := by omega
            have hcv := rb_string (rb_take (ob_rb HX.out) rfl q hqL)
            obtain ⟨S, hS⟩ : ∃ S : ByteArray, S = ⟨((frsB fs).take q).toArray⟩ := ⟨_, rfl⟩
            rw [← hS] at hcv
            have hSl : S.data.toList = (frsB fs).take q := by rw [hS]
            have hSs : S.size = q := by rw [lst_size, hSl, List.length_take]; omega
            have HSL := Lib.hid hSl
            have HSS := Lib.hid hSs
            have hS2 : S.size ≤ 40 * 4104 := by have := HLK.out; omega
            clear hS hSl hSs
            obtain ⟨wL, hwL⟩ : ∃ wL, wL = wc := ⟨_, rfl⟩
            have HWL := Lib.hid hwL
            clear hwL
            go_wp2_with fail
            go_loopw [12, 13] (fun at' i wr => ∃ k m : Nat, k ≤ fs.length ∧ i = .int .i64 k ∧ at' = .int .i64 m ∧ Hid (m = (frsB (fs.take k)).length) ∧ m ≤ q ∧ Below wL.heap.size wL wr) (fun _ i _ => fs.length - (intOf i).toNat)
            case atStart => exact ⟨0, 0, Nat.zero_le _, rfl, rfl, Lib.hid rfl, Nat.zero_le _, by rw [HWL.out]; exact Below.refl _ _⟩
            case round =>
              obtain ⟨k, m, hk, rfl, rfl, HM, hmq, b3⟩ := hrel
              have hB : Below w.heap.size w wr := b2.trans (by have h := b3; rw [HWL.out] at h; exact h.mono b2.size)
              have hY2 : OI wr w.heap.size (.slice A2 (endsK fs fs.length).length c2) (endsK fs fs.length) := own_below HY.out (by have h := b3; rw [HWL.out] at h; exact h)
              obtain ⟨X, hX⟩ : ∃ X, X = S.extract m S.size := ⟨_, rfl⟩
              have hXl : X.data.toList = ((frsB fs).drop m).take (q - m) := by
                rw [hX, ext_seg]
                unfold seg
                rw [HSL.out, HSS.out, List.drop_take, List.take_take, Nat.min_self]
              have hXs : X.size ≤ 140737488351232 := by rw [hX, ByteArray.size_extract]; omega
              have hms : (m : Int) ≤ S.size := by have := HSS.out; omega
              have HXE := Lib.hid hX
              have HXL := Lib.hid hXl
              have hsplit : frsB fs = frsB (fs.take k) ++ frsB (fs.drop k) := by rw [← frsB_app, List.take_append_drop]
              have hdrop : (frsB fs).drop m = frsB (fs.drop k) := by rw [hsplit, HM.out, List.drop_left' rfl]
              have HDR := Lib.hid hdrop
              clear hX hXl hsplit hdrop
              by_cases hlt : k < fs.length
              · obtain ⟨f, hf⟩ : ∃ f, fs[k]? = some f := ⟨_, List.getElem?_eq_getElem hlt⟩
                have hfm : f ∈ fs := List.mem_of_getElem? hf
                obtain ⟨hok, hps⟩ := HG.out f hfm
                have hdk : fs.drop k = f :: fs.drop (k + 1) := by rw [List.drop_eq_getElem_cons hlt]; congr 1; rw [List.getElem?_eq_getElem hlt] at hf; injection hf
                have hts : fs.take (k + 1) = fs.take k ++ [f] := by rw [List.take_add_one, hf]; rfl
                obtain ⟨n, hn⟩ : ∃ n, n = f.bytes.length := ⟨_, rfl⟩
                have hend : (frsB (fs.take (k + 1))).length = m + n := by rw [hts, frsB_snoc, List.length_append, HM.out, hn]
                have hen := endsK_at fs fs.length k hlt
                rw [hend] at hen
                obtain ⟨_, _, hsl, _, hE⟩ := ri_at (own_rc hY2)
                injection hsl with hA2 _ hc2'
                subst hA2 hc2'
                obtain ⟨ae, hae, he0⟩ := hE k _ hen
                subst hae
                have hXf : X.data.toList = (f.bytes ++ frsB (fs.drop (k + 1))).take (q - m) := by rw [HXL.out, HDR.out, hdk, frsB_cons]
                have hlen2 : (endsK fs fs.length).length = fs.length := endsK_len _ _
                have he1 : wr.cell? (ae.add k) = some (.int .i64 ((m : Int) + (n : Int))) := by rw [← Int.natCast_add]; exact he0
                obtain ⟨a, rfl, q0, q1, q2⟩ := HC.out k f hf
                have p0 := cell_below hB (World.block_lt_of_cell? w _ q0) q0
                have p1 := cell_below hB (World.block_lt_of_cell? w _ q1) q1
                have p2 := cell_below hB (World.block_lt_of_cell? w _ q2) q2
                have hlt' : (k : Int) < fs.length := by omega
                have hke : (k : Int) < ((endsK fs fs.length).length : Nat) := by omega
                have hfs := lst_size X
                by_cases hcut : q < m + n
                · have hcut' : (q : Int) < (m : Int) + n := by omega
                  have hNX := nx_part hok (m := q - m) (by omega) (by rw [hXf, List.take_append_of_le_length (by omega)])
                  have HN := next_c (w := wr) X hXs
                  rw [hNX, HXE.out] at HN
                  have HNN := Lib.hid HN
                  clear hNX HN hcut hXf hlen2 hend hdk hfm hf hts hn hen he0 q0 q1 q2 hlt hY2 hok hfs
                  go_wp2_with fail
                  refine (HNN.out).mono ?_
                  rintro e w5 ⟨rfl, b5⟩
                  have b6 := b5.alloc b5.size (.cells #[.int .i64 0, .int .i64 0, .string ByteArray.empty] 23)
                  have he2 := cell_below b6 (World.block_lt_of_cell? wr _ he1) he1
                  go_wp2_with fail
                  go_ret
                  exact ⟨rfl, hB.trans (b6.mono hB.size)⟩
                · have hcut' : (m : Int) + n ≤ q := by omega
                  have hqb : (q : Int) ≤ 164160 := by have := HLK.out; omega
                  obtain ⟨r, hr⟩ : ∃ r, q - m = f.bytes.length + r := ⟨q - m - f.bytes.length, by omega⟩
                  have hNX := nx_of hok (s := X) (more := (frsB (fs.drop (k + 1))).take r) (by rw [hXf, hr, List.take_length_add_append])
                  rw [← hn] at hNX
                  have HN := next_c (w := wr) X hXs
                  rw [hNX, HXE.out] at HN
                  have HNN := Lib.hid HN
                  have HEND := Lib.hid hend
                  have HLT := Lib.hid hlt
                  clear hNX HN hcut hXf hlen2 hend hdk hfm hf hts hn hen he0 q0 q1 q2 hlt hY2 hok hfs hr
                  go_wp2_with fail
                  refine (HNN.out).mono ?_
                  rintro e w5 ⟨rfl, b5⟩
                  have b6 := b5.alloc b5.size (.cells #[.int .i64 f.t, .int .i64 f.c, .string f.p] 23)
                  have he2 : (w5.alloc (.cells #[.int .i64 f.t, .int .i64 f.c, .string f.p] 23)).cell? (ae.add k) = some (.int .i64 ((m : Int) + (n : Int))) := cell_below b6 (World.block_lt_of_cell? wr _ he1) he1
                  have r0 := cell_below b6 (World.block_lt_of_cell? wr _ p0) p0
                  have r1 := cell_below b6 (World.block_lt_of_cell? wr _ p1) p1
                  have r2 := cell_below b6 (World.block_lt_of_cell? wr _ p2) p2
                  have s0 := cell_new0 (w := w5) (cs := #[.int .i64 f.t, .int .i64 f.c, .string f.p]) (t := 23) 0 (.int .i64 f.t) rfl
                  have s1 := cell_new0 (w := w5) (cs := #[.int .i64 f.t, .int .i64 f.c, .string f.p]) (t := 23) 1 (.int .i64 f.c) rfl
                  have s2 := cell_new0 (w := w5) (cs := #[.int .i64 f.t, .int .i64 f.c, .string f.p]) (t := 23) 2 (.string f.p) rfl
                  clear p0 p1 p2 he1
                  go_wp2_with fail
                  have hgn : decide (fs.length ≤ k) = false := decide_eq_false (by omega)
                  go_quiet (fail)
                  all_goals go_wp2
                  have hlt := HLT.out
                  all_goals go_roundw
                  all_goals first | exact ⟨k + 1, m + n, by omega, by go_num, by go_num, Lib.hid HEND.out.symm, by omega, b3.trans ((b6.trans ((below_drewN _ _).mono b6.size)).mono b3.size)⟩ | (simp [intOf]; omega)
              · have hk2 : k = fs.length := by omega
                subst hk2
                have hXn : X.data.toList = [] := by rw [HXL.out, HDR.out, List.drop_length]; simp [frsB]
                have HN := next_c (w := wr) X hXs
                rw [nx_none hXn, HXE.out] at HN
                have HNN := Lib.hid HN
                clear hXn hlt HN
                go_wp2_with fail
                refine (HNN.out).mono ?_
                rintro e w5 ⟨rfl, b5⟩
                have b6 := b5.alloc b5.size (.cells #[.int .i64 0, .int .i64 0, .string ByteArray.empty] 23)
                go_wp2_with fail
                go_ret
                exact ⟨rfl, hB.trans (b6.mono hB.size)⟩
end Go.Proofs.YtbniandbmabdbaaDoor
