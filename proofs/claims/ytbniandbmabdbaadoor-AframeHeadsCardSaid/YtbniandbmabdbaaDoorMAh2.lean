/- Texts of this claim, joined: AhC, RjB, RgA, RgB, RfA, TbG, RfB, RgW, RgC, RjC, RgD, RgE, RkA, RfC, RfD, RfE. -/
import Derived.Test.YtbniandbmabdbaaDoorMAh1
import Derived.BigQuiet
import Derived.Deep.QuietTactic
import Derived.Deep.DeepCutAuto
import Derived.Deep.CutRange
/- Layer 16: ReadHead. -/
namespace Go.Proofs.YtbniandbmabdbaaDoor
open Go Go.RowKit
set_option linter.unusedSimpArgs false
set_option linter.unusedVariables false

theorem flags_all : (List.range 65536).all (fun f => decide (bits BinOp.andNot IntKind.i64 ((f : Nat) : Int) 12288 = 0) == (decide (f = 0) || decide (f = 4096) || decide (f = 8192) || decide (f = 12288))) = true := by decide +kernel
theorem flags_no {f : Nat} (hf : f < 65536) (h0 : f ≠ 0) (h1 : f ≠ 4096) (h2 : f ≠ 8192) (h3 : f ≠ 12288) : ¬ bits BinOp.andNot IntKind.i64 ((f : Nat) : Int) 12288 = 0 := by
  have h := List.all_eq_true.1 flags_all f (List.mem_range.2 hf)
  intro e
  rw [decide_eq_true e, decide_eq_false h0, decide_eq_false h1, decide_eq_false h2, decide_eq_false h3] at h
  cases h
theorem fld_lt (s : ByteArray) (a b : Nat) : fld s a b < 256 ^ (b - a) := by
  refine Nat.lt_of_lt_of_le (natB_lt _) (Nat.pow_le_pow_right (by decide) ?_)
  rw [ba_size, ByteArray.size_extract]
  omega
theorem size_z {n : Nat} (h : n < 18446744073709551616) : (n ≤ 1024 → wrap64 (n : Int) = n) ∧ (¬ n ≤ 1024 → wrap64 (n : Int) < 0 ∨ 1024 < wrap64 (n : Int)) := by
  unfold wrap64
  omega
theorem ext_one {r : ByteArray} (h : r.size = 1) : r.extract 0 1 = r := by
  apply ba_ext
  rw [ba_extract, List.drop_zero, List.take_of_length_le (by rw [ba_size]; omega)]
theorem ext_all {r : ByteArray} (h : r.size = 1) : r.extract 1 r.size = ByteArray.empty := ba_nil (by rw [ByteArray.size_extract]; omega)
theorem take_suffix {n : Nat} {s x r : ByteArray} (h : takeP n s = some (x, r)) : r = s.extract (s.size - r.size) s.size := by
  have hs := takeP_size h
  unfold takeP at h
  split at h
  · injection h with h
    injection h with h1 h2
    rw [show s.size - r.size = n by omega]
    exact h2.symm
  · cases h
theorem table_suffix {s r : ByteArray} {ps : List Prp} (h : tableP s = some (ps, r)) : r = s.extract (s.size - r.size) s.size := by
  unfold tableP at h
  obtain ⟨p, h1, h2⟩ := Option.bind_eq_some_iff.1 h
  obtain ⟨x, y⟩ := p
  obtain ⟨l, _, h3⟩ := Option.map_eq_some_iff.1 h2
  injection h3 with _ h3
  dsimp only at h3
  subst h3
  unfold longP numP at h1
  obtain ⟨q, h4, h5⟩ := Option.bind_eq_some_iff.1 h1
  obtain ⟨q1, h6, h7⟩ := Option.map_eq_some_iff.1 h4
  obtain ⟨a, b⟩ := q1
  obtain ⟨n, c⟩ := q
  injection h7 with h7 h8
  dsimp only at h8 h5
  subst h8
  have e1 := take_suffix h6
  have e2 := take_suffix h5
  have s1 := (takeP_size h6).2
  have s2 := (takeP_size h5).2
  have key : y.data.toList = (s.extract (s.size - y.size) s.size).data.toList := by
    rw [ba_extract, List.take_of_length_le (by rw [ba_size]; omega)]
    have k1 : b.data.toList = s.data.toList.drop (s.size - b.size) := by
      have := congrArg (fun z : ByteArray => z.data.toList) e1
      rw [ba_extract, List.take_of_length_le (by rw [ba_size]; omega)] at this
      exact this
    have k2 : y.data.toList = b.data.toList.drop (b.size - y.size) := by
      have := congrArg (fun z : ByteArray => z.data.toList) e2
      rw [ba_extract, List.take_of_length_le (by rw [ba_size]; omega)] at this
      exact this
    rw [k2, k1, List.drop_drop]
    congr 1
    omega
  exact ba_ext key


theorem rh2_p {n f : Nat} {ps : List Prp} {r : ByteArray} (hf : ¬ (f = 4096 ∨ f = 12288)) (hr : r.size = 0) (hn : n ≤ 1024) : rh2 n f ps r = .ok n ps false := by unfold rh2; rw [if_neg hf, if_pos hr, if_pos hn]
theorem rh2_pbig {n f : Nat} {ps : List Prp} {r : ByteArray} (hf : ¬ (f = 4096 ∨ f = 12288)) (hr : r.size = 0) (hn : ¬ n ≤ 1024) : rh2 n f ps r = .err 3 := by unfold rh2; rw [if_neg hf, if_pos hr, if_neg hn]
theorem rh2_pbad {n f : Nat} {ps : List Prp} {r : ByteArray} (hf : ¬ (f = 4096 ∨ f = 12288)) (hr : ¬ r.size = 0) : rh2 n f ps r = .err 11 := by unfold rh2; rw [if_neg hf, if_neg hr]
theorem rh2_mbad {n f : Nat} {ps : List Prp} {r : ByteArray} (hf : f = 4096 ∨ f = 12288) (hr : ¬ (r.size = 1 ∧ (r = ⟨#[1]⟩ ∨ r = ⟨#[2]⟩))) : rh2 n f ps r = .err 11 := by unfold rh2; rw [if_pos hf, if_neg hr]
theorem rh2_m1 {n f : Nat} {ps : List Prp} {r : ByteArray} (hf : f = 4096 ∨ f = 12288) (hr : r.size = 1) (h : r = ⟨#[1]⟩) (hn : n ≤ 1024) : rh2 n f ps r = .ok n ps false := by unfold rh2; rw [if_pos hf, if_pos ⟨hr, .inl h⟩, if_pos hn, h]; rfl
theorem rh2_m2 {n f : Nat} {ps : List Prp} {r : ByteArray} (hf : f = 4096 ∨ f = 12288) (hr : r.size = 1) (h : r = ⟨#[2]⟩) (hn : n ≤ 1024) : rh2 n f ps r = .ok n ps true := by unfold rh2; rw [if_pos hf, if_pos ⟨hr, .inr h⟩, if_pos hn, h]; rfl
theorem rh2_mbig {n f : Nat} {ps : List Prp} {r : ByteArray} (hf : f = 4096 ∨ f = 12288) (hr : r.size = 1) (h : r = ⟨#[1]⟩ ∨ r = ⟨#[2]⟩) (hn : ¬ n ≤ 1024) : rh2 n f ps r = .err 3 := by unfold rh2; rw [if_pos hf, if_pos ⟨hr, h⟩, if_neg hn]

set_option maxRecDepth 1000000 in
set_option maxHeartbeats 1000000 in
theorem rhX_short {w : World} (s : ByteArray) (h0 : s.size < 14) :
    Calls Tryd.prog 16 #[.string s] w (RHPost w (rhP s)) := by
  have hp := Lib.hid (show rhP s = .err 11 by unfold rhP; rw [if_pos h0])
  have h0I : (s.size : Int) < 14 := by omega
  clear h0
  go_enter Tryd.func16, Tryd.ntmps16
  go_wp2_with fail
  exact bodyPost_ret (v := .tuple #[.int .i64 0, .slice none 0 0, .bool false, .int .i64 11]) (by simp [results, Tryd.results16, go_sem]) rfl (rh_err hp.out (Below.refl _ _))
set_option maxRecDepth 1000000 in
set_option maxHeartbeats 1000000 in
theorem rhX_a {w : World} (s : ByteArray) (hsI : (s.size : Int) ≤ 1073741824) (h0I : (14 : Int) ≤ s.size) {x0 x1 x2 x3 r0 : ByteArray} (ex0 : s.extract 0 2 = x0) (ex1 : s.extract 2 4 = x1) (ex2 : s.extract 4 12 = x2) (ex3 : s.extract 12 14 = x3) (er0 : s.extract 14 s.size = r0) (hrs : r0.size ≤ 1073741824) (a : Int) (ha : ¬ a = 60) (Ba : Hid (∀ w : World, Calls Tryd.prog 23 #[.string x0] w fun e w' => e = .returned (.int .i64 (a)) ∧ w = w')) (HP : Hid (rhP s = .err 11)) :
    Calls Tryd.prog 16 #[.string s] w (RHPost w (rhP s)) := by
  clear hrs
  go_enter Tryd.func16, Tryd.ntmps16
  go_wp2_with (first | (go_at_call 23; with_reducible refine (Bb.out _).mono ?_; rintro e w1 ⟨rfl, rfl⟩) | (go_at_call 23; with_reducible refine (Ba.out _).mono ?_; rintro e w1 ⟨rfl, rfl⟩))
  exact bodyPost_ret (v := .tuple #[.int .i64 0, .slice none 0 0, .bool false, .int .i64 11]) (by simp [results, Tryd.results16, go_sem]) rfl (rh_err HP.out (Below.refl _ _))
set_option maxRecDepth 1000000 in
set_option maxHeartbeats 1000000 in
theorem rhX_b {w : World} (s : ByteArray) (hsI : (s.size : Int) ≤ 1073741824) (h0I : (14 : Int) ≤ s.size) {x0 x1 x2 x3 r0 : ByteArray} (ex0 : s.extract 0 2 = x0) (ex1 : s.extract 2 4 = x1) (ex2 : s.extract 4 12 = x2) (ex3 : s.extract 12 14 = x3) (er0 : s.extract 14 s.size = r0) (hrs : r0.size ≤ 1073741824) (b : Int) (hb : ¬ b = 0) (Ba : Hid (∀ w : World, Calls Tryd.prog 23 #[.string x0] w fun e w' => e = .returned (.int .i64 (60)) ∧ w = w')) (Bb : Hid (∀ w : World, Calls Tryd.prog 23 #[.string x1] w fun e w' => e = .returned (.int .i64 (b)) ∧ w = w')) (HP : Hid (rhP s = .err 11)) :
    Calls Tryd.prog 16 #[.string s] w (RHPost w (rhP s)) := by
  have hbn : (b != 0) = true := bne_iff_ne.2 hb
  clear hrs
  go_enter Tryd.func16, Tryd.ntmps16
  go_wp2_with (first | (go_at_call 23; with_reducible refine (Bb.out _).mono ?_; rintro e w1 ⟨rfl, rfl⟩) | (go_at_call 23; with_reducible refine (Ba.out _).mono ?_; rintro e w1 ⟨rfl, rfl⟩))
  exact bodyPost_ret (v := .tuple #[.int .i64 0, .slice none 0 0, .bool false, .int .i64 11]) (by simp [results, Tryd.results16, go_sem]) rfl (rh_err HP.out (Below.refl _ _))
set_option maxRecDepth 1000000 in
set_option maxHeartbeats 1000000 in
theorem rhX_0 {w : World} (s : ByteArray) (hsI : (s.size : Int) ≤ 1073741824) (h0I : (14 : Int) ≤ s.size) {x0 x1 x2 x3 r0 : ByteArray} (ex0 : s.extract 0 2 = x0) (ex1 : s.extract 2 4 = x1) (ex2 : s.extract 4 12 = x2) (ex3 : s.extract 12 14 = x3) (er0 : s.extract 14 s.size = r0) (hrs : r0.size ≤ 1073741824) (n : Nat) (z : Int) (HZZ : Hid ((n ≤ 1024 → z = n) ∧ (¬ n ≤ 1024 → z < 0 ∨ 1024 < z))) (Ba : Hid (∀ w : World, Calls Tryd.prog 23 #[.string x0] w fun e w' => e = .returned (.int .i64 (60)) ∧ w = w')) (Bb : Hid (∀ w : World, Calls Tryd.prog 23 #[.string x1] w fun e w' => e = .returned (.int .i64 (0)) ∧ w = w')) (Bn : Hid (∀ w : World, Calls Tryd.prog 23 #[.string x2] w fun e w' => e = .returned (.int .i64 (z)) ∧ w' = w)) (Bf : Hid (∀ w : World, Calls Tryd.prog 23 #[.string x3] w fun e w' => e = .returned (.int .i64 (0)) ∧ w' = w)) (hp : rhP s = rh2 n 0 [] r0) :
    Calls Tryd.prog 16 #[.string s] w (RHPost w (rhP s)) := by
  have hand : bits BinOp.andNot IntKind.i64 0 12288 = 0 := by kernel_rfl
  have hand2 : bits BinOp.and IntKind.i64 0 8192 = 0 := by kernel_rfl
  have hand3 : bits BinOp.and IntKind.i64 0 4096 = 0 := by kernel_rfl
  have HRS := Lib.hid hrs
  clear hrs
  go_enter Tryd.func16, Tryd.ntmps16
  go_upto_region 3 with (first | (go_at_call 23; with_reducible refine (Bb.out _).mono ?_; rintro e w1 ⟨rfl, rfl⟩) | (go_at_call 23; with_reducible refine (Ba.out _).mono ?_; rintro e w1 ⟨rfl, rfl⟩))
  go_quiet ((first | (go_at_call 23; with_reducible exact Calls.quiet_of_same (Bf.out _)) | (go_at_call 23; with_reducible exact Calls.quiet_of_same (Bn.out _))))
  by_cases hr0 : r0.size = 0
  · obtain rfl := ba_nil hr0
    by_cases hn : n ≤ 1024
    · have hzn := HZZ.out.1 hn
      have HP := Lib.hid (hp.trans (rh2_p (by decide) rfl hn))
      have z0 : 0 ≤ z := by omega
      have z1 : z ≤ 1024 := by omega
      have HZN := Lib.hid hzn
      clear hn hp hzn
      go_wp2_with fail
      exact bodyPost_ret (v := .tuple #[.int .i64 z, .slice none 0 0, .bool false, .int .i64 0]) (by simp [results, Tryd.results16, go_sem]) rfl (by rw [HZN.out]; exact rh_ok HP.out (below_drewN w _) (.inl ⟨rfl, rfl⟩))
    · have hzn := HZZ.out.2 hn
      have HP := Lib.hid (hp.trans (rh2_pbig (by decide) rfl hn))
      clear hn hp
      rcases hzn with hzn | hzn
      · go_wp2_with fail
        exact bodyPost_ret (v := .tuple #[.int .i64 0, .slice none 0 0, .bool false, .int .i64 3]) (by simp [results, Tryd.results16, go_sem]) rfl (rh_err HP.out (below_drewN w _))
      · have hzn0 : 0 ≤ z := by omega
        go_wp2_with fail
        exact bodyPost_ret (v := .tuple #[.int .i64 0, .slice none 0 0, .bool false, .int .i64 3]) (by simp [results, Tryd.results16, go_sem]) rfl (rh_err HP.out (below_drewN w _))
  · have HP := Lib.hid (hp.trans (rh2_pbad (by decide) hr0))
    have hE := ne_nil r0 (by omega)
    clear hr0 hp
    go_wp2_with fail
    exact bodyPost_ret (v := .tuple #[.int .i64 0, .slice none 0 0, .bool false, .int .i64 11]) (by simp [results, Tryd.results16, go_sem]) rfl (rh_err HP.out (below_drewN w _))
set_option maxRecDepth 1000000 in
set_option maxHeartbeats 1000000 in
theorem rhX_4096 {w : World} (s : ByteArray) (hsI : (s.size : Int) ≤ 1073741824) (h0I : (14 : Int) ≤ s.size) {x0 x1 x2 x3 r0 : ByteArray} (ex0 : s.extract 0 2 = x0) (ex1 : s.extract 2 4 = x1) (ex2 : s.extract 4 12 = x2) (ex3 : s.extract 12 14 = x3) (er0 : s.extract 14 s.size = r0) (hrs : r0.size ≤ 1073741824) (n : Nat) (z : Int) (HZZ : Hid ((n ≤ 1024 → z = n) ∧ (¬ n ≤ 1024 → z < 0 ∨ 1024 < z))) (Ba : Hid (∀ w : World, Calls Tryd.prog 23 #[.string x0] w fun e w' => e = .returned (.int .i64 (60)) ∧ w = w')) (Bb : Hid (∀ w : World, Calls Tryd.prog 23 #[.string x1] w fun e w' => e = .returned (.int .i64 (0)) ∧ w = w')) (Bn : Hid (∀ w : World, Calls Tryd.prog 23 #[.string x2] w fun e w' => e = .returned (.int .i64 (z)) ∧ w' = w)) (Bf : Hid (∀ w : World, Calls Tryd.prog 23 #[.string x3] w fun e w' => e = .returned (.int .i64 (4096)) ∧ w' = w)) (hp : rhP s = rh2 n 4096 [] r0) :
    Calls Tryd.prog 16 #[.string s] w (RHPost w (rhP s)) := by
  have hand : bits BinOp.andNot IntKind.i64 4096 12288 = 0 := by kernel_rfl
  have hand2 : bits BinOp.and IntKind.i64 4096 8192 = 0 := by kernel_rfl
  have hand3 : bits BinOp.and IntKind.i64 4096 4096 = 4096 := by kernel_rfl
  have HRS := Lib.hid hrs
  clear hrs
  go_enter Tryd.func16, Tryd.ntmps16
  go_upto_region 3 with (first | (go_at_call 23; with_reducible refine (Bb.out _).mono ?_; rintro e w1 ⟨rfl, rfl⟩) | (go_at_call 23; with_reducible refine (Ba.out _).mono ?_; rintro e w1 ⟨rfl, rfl⟩))
  go_quiet ((first | (go_at_call 23; with_reducible exact Calls.quiet_of_same (Bf.out _)) | (go_at_call 23; with_reducible exact Calls.quiet_of_same (Bn.out _))))
  by_cases hr0 : r0.size = 0
  · have HP := Lib.hid (hp.trans (rh2_mbad (by decide) (by omega)))
    obtain rfl := ba_nil hr0
    have e00 : ByteArray.empty.extract (min (1 : Int) 0).toNat 0 = ByteArray.empty := by rfl
    have e01 : ByteArray.empty.extract 0 (min (1 : Int) 0).toNat = ByteArray.empty := by rfl
    have hmin : min (1 : Int) 0 = 0 := by decide
    clear hr0 hp
    go_wp2_with fail
    go_quiet (fail)
    go_wp2_with fail
    exact bodyPost_ret (v := .tuple #[.int .i64 0, .slice none 0 0, .bool false, .int .i64 11]) (by simp [results, Tryd.results16, go_sem]) rfl (rh_err HP.out (below_drewN w _))
  have hrI : (1 : Int) ≤ r0.size := by omega
  have hrJ : (r0.size : Int) ≤ 1073741824 := by have := HRS.out; omega
  have hmin : min (1 : Int) (r0.size : Int) = 1 := by omega
  have hmin2 : min 1 r0.size = 1 := by omega
  obtain ⟨y1, hy1⟩ : ∃ y, r0.extract 0 1 = y := ⟨_, rfl⟩
  obtain ⟨y2, hy2⟩ : ∃ y, r0.extract 1 r0.size = y := ⟨_, rfl⟩
  by_cases hr1 : ¬ r0.size = 1
  · have HP := Lib.hid (hp.trans (rh2_mbad (by decide) (fun h => hr1 h.1)))
    have hE := ne_nil y2 (by rw [← hy2, ByteArray.size_extract]; omega)
    clear hr0 hr1 hp
    go_wp2_with fail
    go_quiet (fail)
    go_wp2_with fail
    exact bodyPost_ret (v := .tuple #[.int .i64 0, .slice none 0 0, .bool false, .int .i64 11]) (by simp [results, Tryd.results16, go_sem]) rfl (rh_err HP.out (below_drewN w _))
  replace hr1 := Decidable.of_not_not hr1
  obtain rfl : y2 = ByteArray.empty := by rw [← hy2]; exact ext_all hr1
  have hyr : y1 = r0 := by rw [← hy1]; exact ext_one hr1
  by_cases hm1 : r0 = ⟨#[1]⟩
  · have hy3 : y1 = ⟨#[1]⟩ := hyr.trans hm1
    subst hy3
    have HR1 := Lib.hid hr1
    have HMM := Lib.hid hm1
    clear hyr hr0 hr1 hm1
    go_wp2_with fail
    go_quiet (fail)
    by_cases hn : n ≤ 1024
    · have hzn := HZZ.out.1 hn
      have HP := Lib.hid (hp.trans (rh2_m1 (by decide) HR1.out HMM.out hn))
      have z0 : 0 ≤ z := by omega
      have z1 : z ≤ 1024 := by omega
      have HZN := Lib.hid hzn
      clear hn hp hzn
      go_wp2_with fail
      exact bodyPost_ret (v := .tuple #[.int .i64 z, .slice none 0 0, .bool false, .int .i64 0]) (by simp [results, Tryd.results16, go_sem]) rfl (by rw [HZN.out]; exact rh_ok HP.out (below_drewN w _) (.inl ⟨rfl, rfl⟩))
    · have hzn := HZZ.out.2 hn
      have HP := Lib.hid (hp.trans (rh2_mbig (by decide) HR1.out (.inl HMM.out) hn))
      clear hn hp
      rcases hzn with hzn | hzn
      · go_wp2_with fail
        exact bodyPost_ret (v := .tuple #[.int .i64 0, .slice none 0 0, .bool false, .int .i64 3]) (by simp [results, Tryd.results16, go_sem]) rfl (rh_err HP.out (below_drewN w _))
      · have hzn0 : 0 ≤ z := by omega
        go_wp2_with fail
        exact bodyPost_ret (v := .tuple #[.int .i64 0, .slice none 0 0, .bool false, .int .i64 3]) (by simp [results, Tryd.results16, go_sem]) rfl (rh_err HP.out (below_drewN w _))
  by_cases hm2 : r0 = ⟨#[2]⟩
  · have hy3 : y1 = ⟨#[2]⟩ := hyr.trans hm2
    subst hy3
    have HR1 := Lib.hid hr1
    have HMM := Lib.hid hm2
    clear hyr hr0 hr1 hm2 hm1
    go_wp2_with fail
    go_quiet (fail)
    by_cases hn : n ≤ 1024
    · have hzn := HZZ.out.1 hn
      have HP := Lib.hid (hp.trans (rh2_m2 (by decide) HR1.out HMM.out hn))
      have z0 : 0 ≤ z := by omega
      have z1 : z ≤ 1024 := by omega
      have HZN := Lib.hid hzn
      clear hn hp hzn
      go_wp2_with fail
      exact bodyPost_ret (v := .tuple #[.int .i64 z, .slice none 0 0, .bool true, .int .i64 0]) (by simp [results, Tryd.results16, go_sem]) rfl (by rw [HZN.out]; exact rh_ok HP.out (below_drewN w _) (.inl ⟨rfl, rfl⟩))
    · have hzn := HZZ.out.2 hn
      have HP := Lib.hid (hp.trans (rh2_mbig (by decide) HR1.out (.inr HMM.out) hn))
      clear hn hp
      rcases hzn with hzn | hzn
      · go_wp2_with fail
        exact bodyPost_ret (v := .tuple #[.int .i64 0, .slice none 0 0, .bool false, .int .i64 3]) (by simp [results, Tryd.results16, go_sem]) rfl (rh_err HP.out (below_drewN w _))
      · have hzn0 : 0 ≤ z := by omega
        go_wp2_with fail
        exact bodyPost_ret (v := .tuple #[.int .i64 0, .slice none 0 0, .bool false, .int .i64 3]) (by simp [results, Tryd.results16, go_sem]) rfl (rh_err HP.out (below_drewN w _))
  have HP := Lib.hid (hp.trans (rh2_mbad (by decide) (fun h => h.2.elim hm1 hm2)))
  rw [hyr] at hy1
  have hb1 : (r0.toList == [1]) = false := str_bne (l := [1]) hm1
  have hb2 : (r0.toList == [2]) = false := str_bne (l := [2]) hm2
  clear hr0 hr1 hp hm1 hm2 hyr
  go_wp2_with fail
  go_quiet (fail)
  go_wp2_with fail
  exact bodyPost_ret (v := .tuple #[.int .i64 0, .slice none 0 0, .bool false, .int .i64 11]) (by simp [results, Tryd.results16, go_sem]) rfl (rh_err HP.out (below_drewN w _))
set_option maxRecDepth 1000000 in
set_option maxHeartbeats 1000000 in
theorem rhX_8192n {w : World} (s : ByteArray) (hsI : (s.size : Int) ≤ 1073741824) (h0I : (14 : Int) ≤ s.size) {x0 x1 x2 x3 r0 : ByteArray} (ex0 : s.extract 0 2 = x0) (ex1 : s.extract 2 4 = x1) (ex2 : s.extract 4 12 = x2) (ex3 : s.extract 12 14 = x3) (er0 : s.extract 14 s.size = r0) (hrs : r0.size ≤ 1073741824) (n : Nat) (z : Int) (HZZ : Hid ((n ≤ 1024 → z = n) ∧ (¬ n ≤ 1024 → z < 0 ∨ 1024 < z))) (Ba : Hid (∀ w : World, Calls Tryd.prog 23 #[.string x0] w fun e w' => e = .returned (.int .i64 (60)) ∧ w = w')) (Bb : Hid (∀ w : World, Calls Tryd.prog 23 #[.string x1] w fun e w' => e = .returned (.int .i64 (0)) ∧ w = w')) (Bn : Hid (∀ w : World, Calls Tryd.prog 23 #[.string x2] w fun e w' => e = .returned (.int .i64 (z)) ∧ w' = w)) (Bf : Hid (∀ w : World, Calls Tryd.prog 23 #[.string x3] w fun e w' => e = .returned (.int .i64 (8192)) ∧ w' = w)) (ho : tableP r0 = none) (HP : Hid (rhP s = .err 11)) :
    Calls Tryd.prog 16 #[.string s] w (RHPost w (rhP s)) := by
  have hand : bits BinOp.andNot IntKind.i64 8192 12288 = 0 := by kernel_rfl
  have hand2 : bits BinOp.and IntKind.i64 8192 8192 = 8192 := by kernel_rfl
  have hand3 : bits BinOp.and IntKind.i64 8192 4096 = 0 := by kernel_rfl
  have HRS := Lib.hid hrs
  go_enter Tryd.func16, Tryd.ntmps16
  go_upto_region 3 with (first | (go_at_call 23; with_reducible refine (Bb.out _).mono ?_; rintro e w1 ⟨rfl, rfl⟩) | (go_at_call 23; with_reducible refine (Ba.out _).mono ?_; rintro e w1 ⟨rfl, rfl⟩))
  go_quiet ((first | (go_at_call 23; with_reducible exact Calls.quiet_of_same (Bf.out _)) | (go_at_call 23; with_reducible exact Calls.quiet_of_same (Bn.out _))))
  have BQ := below_drewN w nq
  have hT2 := tTake_c (w := w.drewN nq) r0 hrs
  unfold TakePost at hT2
  rw [ho] at hT2
  have HT := Lib.hid hT2
  clear hT2 hrs
  clear ho
  go_wp2_with fail
  refine (HT.out).mono ?_
  rintro e w1 ⟨b1, rfl⟩
  go_wp2_with fail
  exact bodyPost_ret (v := .tuple #[.int .i64 0, .slice none 0 0, .bool false, .int .i64 11]) (by simp [results, Tryd.results16, go_sem]) rfl (rh_err HP.out (BQ.trans b1))
set_option maxRecDepth 1000000 in
set_option maxHeartbeats 1000000 in
theorem rhX_8192s {w : World} (s : ByteArray) (hsI : (s.size : Int) ≤ 1073741824) (h0I : (14 : Int) ≤ s.size) {x0 x1 x2 x3 r0 : ByteArray} (ex0 : s.extract 0 2 = x0) (ex1 : s.extract 2 4 = x1) (ex2 : s.extract 4 12 = x2) (ex3 : s.extract 12 14 = x3) (er0 : s.extract 14 s.size = r0) (hrs : r0.size ≤ 1073741824) (n : Nat) (z : Int) (HZZ : Hid ((n ≤ 1024 → z = n) ∧ (¬ n ≤ 1024 → z < 0 ∨ 1024 < z))) (Ba : Hid (∀ w : World, Calls Tryd.prog 23 #[.string x0] w fun e w' => e = .returned (.int .i64 (60)) ∧ w = w')) (Bb : Hid (∀ w : World, Calls Tryd.prog 23 #[.string x1] w fun e w' => e = .returned (.int .i64 (0)) ∧ w = w')) (Bn : Hid (∀ w : World, Calls Tryd.prog 23 #[.string x2] w fun e w' => e = .returned (.int .i64 (z)) ∧ w' = w)) (Bf : Hid (∀ w : World, Calls Tryd.prog 23 #[.string x3] w fun e w' => e = .returned (.int .i64 (8192)) ∧ w' = w)) {ps : List Prp} {r : ByteArray} (ho : tableP r0 = some (ps, r)) (hp : rhP s = rh2 n 8192 ps r) :
    Calls Tryd.prog 16 #[.string s] w (RHPost w (rhP s)) := by
  have hand : bits BinOp.andNot IntKind.i64 8192 12288 = 0 := by kernel_rfl
  have hand2 : bits BinOp.and IntKind.i64 8192 8192 = 8192 := by kernel_rfl
  have hand3 : bits BinOp.and IntKind.i64 8192 4096 = 0 := by kernel_rfl
  have HRS := Lib.hid hrs
  go_enter Tryd.func16, Tryd.ntmps16
  go_upto_region 3 with (first | (go_at_call 23; with_reducible refine (Bb.out _).mono ?_; rintro e w1 ⟨rfl, rfl⟩) | (go_at_call 23; with_reducible refine (Ba.out _).mono ?_; rintro e w1 ⟨rfl, rfl⟩))
  go_quiet ((first | (go_at_call 23; with_reducible exact Calls.quiet_of_same (Bf.out _)) | (go_at_call 23; with_reducible exact Calls.quiet_of_same (Bn.out _))))
  have BQ := below_drewN w nq
  have hT2 := tTake_c (w := w.drewN nq) r0 hrs
  unfold TakePost at hT2
  rw [ho] at hT2
  dsimp only at hT2
  have HT := Lib.hid hT2
  have hsf := table_suffix ho
  have hrz := tableP_size ho
  replace HRS := Lib.hid (show r.size ≤ 1073741824 by omega)
  have hri0 : (0 : Int) ≤ (r0.size : Int) - r.size := by omega
  have hri1 : (r0.size : Int) - r.size ≤ r0.size := by omega
  have hrn : ((r0.size : Int) - r.size).toNat = r0.size - r.size := by omega
  have hsx : r0.extract (r0.size - r.size) r0.size = r := hsf.symm
  have hrK : (r0.size : Int) ≤ 1073741824 := by omega
  clear hT2 hrs hsf hrz ho
  go_wp2_with fail
  refine (HT.out).mono ?_
  rintro e w1 ⟨b1, v, rfl, hv⟩
  have B1 := BQ.trans b1
  have OV : OwnP w1 w.heap.size v ps := hv
  go_wp2_with fail
  go_quiet (fail)
  clear hri0 hri1 hrn hsx hrK
  by_cases hr0 : r.size = 0
  · obtain rfl := ba_nil hr0
    by_cases hn : n ≤ 1024
    · have hzn := HZZ.out.1 hn
      have HP := Lib.hid (hp.trans (rh2_p (by decide) rfl hn))
      have z0 : 0 ≤ z := by omega
      have z1 : z ≤ 1024 := by omega
      have HZN := Lib.hid hzn
      clear hn hp hzn
      go_wp2_with fail
      exact bodyPost_ret (v := .tuple #[.int .i64 z, v, .bool false, .int .i64 0]) (by simp [results, Tryd.results16, go_sem]) rfl (by rw [HZN.out]; exact rh_ok HP.out (B1.trans ((below_drewN w1 _).mono B1.size)) (ownP_below OV (below_drewN _ _)))
    · have hzn := HZZ.out.2 hn
      have HP := Lib.hid (hp.trans (rh2_pbig (by decide) rfl hn))
      clear hn hp
      rcases hzn with hzn | hzn
      · go_wp2_with fail
        exact bodyPost_ret (v := .tuple #[.int .i64 0, .slice none 0 0, .bool false, .int .i64 3]) (by simp [results, Tryd.results16, go_sem]) rfl (rh_err HP.out (B1.trans ((below_drewN w1 _).mono B1.size)))
      · have hzn0 : 0 ≤ z := by omega
        go_wp2_with fail
        exact bodyPost_ret (v := .tuple #[.int .i64 0, .slice none 0 0, .bool false, .int .i64 3]) (by simp [results, Tryd.results16, go_sem]) rfl (rh_err HP.out (B1.trans ((below_drewN w1 _).mono B1.size)))
  · have HP := Lib.hid (hp.trans (rh2_pbad (by decide) hr0))
    have hE := ne_nil r (by omega)
    clear hr0 hp
    go_wp2_with fail
    exact bodyPost_ret (v := .tuple #[.int .i64 0, .slice none 0 0, .bool false, .int .i64 11]) (by simp [results, Tryd.results16, go_sem]) rfl (rh_err HP.out (B1.trans ((below_drewN w1 _).mono B1.size)))
set_option maxRecDepth 1000000 in
set_option maxHeartbeats 1000000 in
theorem rhX_12288n {w : World} (s : ByteArray) (hsI : (s.size : Int) ≤ 1073741824) (h0I : (14 : Int) ≤ s.size) {x0 x1 x2 x3 r0 : ByteArray} (ex0 : s.extract 0 2 = x0) (ex1 : s.extract 2 4 = x1) (ex2 : s.extract 4 12 = x2) (ex3 : s.extract 12 14 = x3) (er0 : s.extract 14 s.size = r0) (hrs : r0.size ≤ 1073741824) (n : Nat) (z : Int) (HZZ : Hid ((n ≤ 1024 → z = n) ∧ (¬ n ≤ 1024 → z < 0 ∨ 1024 < z))) (Ba : Hid (∀ w : World, Calls Tryd.prog 23 #[.string x0] w fun e w' => e = .returned (.int .i64 (60)) ∧ w = w')) (Bb : Hid (∀ w : World, Calls Tryd.prog 23 #[.string x1] w fun e w' => e = .returned (.int .i64 (0)) ∧ w = w')) (Bn : Hid (∀ w : World, Calls Tryd.prog 23 #[.string x2] w fun e w' => e = .returned (.int .i64 (z)) ∧ w' = w)) (Bf : Hid (∀ w : World, Calls Tryd.prog 23 #[.string x3] w fun e w' => e = .returned (.int .i64 (12288)) ∧ w' = w)) (ho : tableP r0 = none) (HP : Hid (rhP s = .err 11)) :
    Calls Tryd.prog 16 #[.string s] w (RHPost w (rhP s)) := by
  have hand : bits BinOp.andNot IntKind.i64 12288 12288 = 0 := by kernel_rfl
  have hand2 : bits BinOp.and IntKind.i64 12288 8192 = 8192 := by kernel_rfl
  have hand3 : bits BinOp.and IntKind.i64 12288 4096 = 4096 := by kernel_rfl
  have HRS := Lib.hid hrs
  go_enter Tryd.func16, Tryd.ntmps16
  go_upto_region 3 with (first | (go_at_call 23; with_reducible refine (Bb.out _).mono ?_; rintro e w1 ⟨rfl, rfl⟩) | (go_at_call 23; with_reducible refine (Ba.out _).mono ?_; rintro e w1 ⟨rfl, rfl⟩))
  go_quiet ((first | (go_at_call 23; with_reducible exact Calls.quiet_of_same (Bf.out _)) | (go_at_call 23; with_reducible exact Calls.quiet_of_same (Bn.out _))))
  have BQ := below_drewN w nq
  have hT2 := tTake_c (w := w.drewN nq) r0 hrs
  unfold TakePost at hT2
  rw [ho] at hT2
  have HT := Lib.hid hT2
  clear hT2 hrs
  clear ho
  go_wp2_with fail
  refine (HT.out).mono ?_
  rintro e w1 ⟨b1, rfl⟩
  go_wp2_with fail
  exact bodyPost_ret (v := .tuple #[.int .i64 0, .slice none 0 0, .bool false, .int .i64 11]) (by simp [results, Tryd.results16, go_sem]) rfl (rh_err HP.out (BQ.trans b1))
set_option maxRecDepth 1000000 in
set_option maxHeartbeats 1000000 in
theorem rhX_12288s {w : World} (s : ByteArray) (hsI : (s.size : Int) ≤ 1073741824) (h0I : (14 : Int) ≤ s.size) {x0 x1 x2 x3 r0 : ByteArray} (ex0 : s.extract 0 2 = x0) (ex1 : s.extract 2 4 = x1) (ex2 : s.extract 4 12 = x2) (ex3 : s.extract 12 14 = x3) (er0 : s.extract 14 s.size = r0) (hrs : r0.size ≤ 1073741824) (n : Nat) (z : Int) (HZZ : Hid ((n ≤ 1024 → z = n) ∧ (¬ n ≤ 1024 → z < 0 ∨ 1024 < z))) (Ba : Hid (∀ w : World, Calls Tryd.prog 23 #[.string x0] w fun e w' => e = .returned (.int .i64 (60)) ∧ w = w')) (Bb : Hid (∀ w : World, Calls Tryd.prog 23 #[.string x1] w fun e w' => e = .returned (.int .i64 (0)) ∧ w = w')) (Bn : Hid (∀ w : World, Calls Tryd.prog 23 #[.string x2] w fun e w' => e = .returned (.int .i64 (z)) ∧ w' = w)) (Bf : Hid (∀ w : World, Calls Tryd.prog 23 #[.string x3] w fun e w' => e = .returned (.int .i64 (12288)) ∧ w' = w)) {ps : List Prp} {r : ByteArray} (ho : tableP r0 = some (ps, r)) (hp : rhP s = rh2 n 12288 ps r) :
    Calls Tryd.prog 16 #[.string s] w (RHPost w (rhP s)) := by
  have hand : bits BinOp.andNot IntKind.i64 12288 12288 = 0 := by kernel_rfl
  have hand2 : bits BinOp.and IntKind.i64 12288 8192 = 8192 := by kernel_rfl
  have hand3 : bits BinOp.and IntKind.i64 12288 4096 = 4096 := by kernel_rfl
  have HRS := Lib.hid hrs
  go_enter Tryd.func16, Tryd.ntmps16
  go_upto_region 3 with (first | (go_at_call 23; with_reducible refine (Bb.out _).mono ?_; rintro e w1 ⟨rfl, rfl⟩) | (go_at_call 23; with_reducible refine (Ba.out _).mono ?_; rintro e w1 ⟨rfl, rfl⟩))
  go_quiet ((first | (go_at_call 23; with_reducible exact Calls.quiet_of_same (Bf.out _)) | (go_at_call 23; with_reducible exact Calls.quiet_of_same (Bn.out _))))
  have BQ := below_drewN w nq
  have hT2 := tTake_c (w := w.drewN nq) r0 hrs
  unfold TakePost at hT2
  rw [ho] at hT2
  dsimp only at hT2
  have HT := Lib.hid hT2
  have hsf := table_suffix ho
  have hrz := tableP_size ho
  replace HRS := Lib.hid (show r.size ≤ 1073741824 by omega)
  have hri0 : (0 : Int) ≤ (r0.size : Int) - r.size := by omega
  have hri1 : (r0.size : Int) - r.size ≤ r0.size := by omega
  have hrn : ((r0.size : Int) - r.size).toNat = r0.size - r.size := by omega
  have hsx : r0.extract (r0.size - r.size) r0.size = r := hsf.symm
  have hrK : (r0.size : Int) ≤ 1073741824 := by omega
  clear hT2 hrs hsf hrz ho
  go_wp2_with fail
  refine (HT.out).mono ?_
  rintro e w1 ⟨b1, v, rfl, hv⟩
  have B1 := BQ.trans b1
  have OV : OwnP w1 w.heap.size v ps := hv
  go_wp2_with fail
  go_quiet (fail)
  clear hri0 hri1 hrn hsx hrK
  by_cases hr0 : r.size = 0
  · have HP := Lib.hid (hp.trans (rh2_mbad (by decide) (by omega)))
    obtain rfl := ba_nil hr0
    have e00 : ByteArray.empty.extract (min (1 : Int) 0).toNat 0 = ByteArray.empty := by rfl
    have e01 : ByteArray.empty.extract 0 (min (1 : Int) 0).toNat = ByteArray.empty := by rfl
    have hmin : min (1 : Int) 0 = 0 := by decide
    clear hr0 hp
    go_wp2_with fail
    go_quiet (fail)
    go_wp2_with fail
    exact bodyPost_ret (v := .tuple #[.int .i64 0, .slice none 0 0, .bool false, .int .i64 11]) (by simp [results, Tryd.results16, go_sem]) rfl (rh_err HP.out (B1.trans ((below_drewN w1 _).mono B1.size)))
  have hrI : (1 : Int) ≤ r.size := by omega
  have hrJ : (r.size : Int) ≤ 1073741824 := by have := HRS.out; omega
  have hmin : min (1 : Int) (r.size : Int) = 1 := by omega
  have hmin2 : min 1 r.size = 1 := by omega
  obtain ⟨y1, hy1⟩ : ∃ y, r.extract 0 1 = y := ⟨_, rfl⟩
  obtain ⟨y2, hy2⟩ : ∃ y, r.extract 1 r.size = y := ⟨_, rfl⟩
  by_cases hr1 : ¬ r.size = 1
  · have HP := Lib.hid (hp.trans (rh2_mbad (by decide) (fun h => hr1 h.1)))
    have hE := ne_nil y2 (by rw [← hy2, ByteArray.size_extract]; omega)
    clear hr0 hr1 hp
    go_wp2_with fail
    go_quiet (fail)
    go_wp2_with fail
    exact bodyPost_ret (v := .tuple #[.int .i64 0, .slice none 0 0, .bool false, .int .i64 11]) (by simp [results, Tryd.results16, go_sem]) rfl (rh_err HP.out (B1.trans ((below_drewN w1 _).mono B1.size)))
  replace hr1 := Decidable.of_not_not hr1
  obtain rfl : y2 = ByteArray.empty := by rw [← hy2]; exact ext_all hr1
  have hyr : y1 = r := by rw [← hy1]; exact ext_one hr1
  by_cases hm1 : r = ⟨#[1]⟩
  · have hy3 : y1 = ⟨#[1]⟩ := hyr.trans hm1
    subst hy3
    have HR1 := Lib.hid hr1
    have HMM := Lib.hid hm1
    clear hyr hr0 hr1 hm1
    go_wp2_with fail
    go_quiet (fail)
    by_cases hn : n ≤ 1024
    · have hzn := HZZ.out.1 hn
      have HP := Lib.hid (hp.trans (rh2_m1 (by decide) HR1.out HMM.out hn))
      have z0 : 0 ≤ z := by omega
      have z1 : z ≤ 1024 := by omega
      have HZN := Lib.hid hzn
      clear hn hp hzn
      go_wp2_with fail
      exact bodyPost_ret (v := .tuple #[.int .i64 z, v, .bool false, .int .i64 0]) (by simp [results, Tryd.results16, go_sem]) rfl (by rw [HZN.out]; exact rh_ok HP.out (B1.trans ((below_drewN w1 _).mono B1.size)) (ownP_below OV (below_drewN _ _)))
    · have hzn := HZZ.out.2 hn
      have HP := Lib.hid (hp.trans (rh2_mbig (by decide) HR1.out (.inl HMM.out) hn))
      clear hn hp
      rcases hzn with hzn | hzn
      · go_wp2_with fail
        exact bodyPost_ret (v := .tuple #[.int .i64 0, .slice none 0 0, .bool false, .int .i64 3]) (by simp [results, Tryd.results16, go_sem]) rfl (rh_err HP.out (B1.trans ((below_drewN w1 _).mono B1.size)))
      · have hzn0 : 0 ≤ z := by omega
        go_wp2_with fail
        exact bodyPost_ret (v := .tuple #[.int .i64 0, .slice none 0 0, .bool false, .int .i64 3]) (by simp [results, Tryd.results16, go_sem]) rfl (rh_err HP.out (B1.trans ((below_drewN w1 _).mono B1.size)))
  by_cases hm2 : r = ⟨#[2]⟩
  · have hy3 : y1 = ⟨#[2]⟩ := hyr.trans hm2
    subst hy3
    have HR1 := Lib.hid hr1
    have HMM := Lib.hid hm2
    clear hyr hr0 hr1 hm2 hm1
    go_wp2_with fail
    go_quiet (fail)
    by_cases hn : n ≤ 1024
    · have hzn := HZZ.out.1 hn
      have HP := Lib.hid (hp.trans (rh2_m2 (by decide) HR1.out HMM.out hn))
      have z0 : 0 ≤ z := by omega
      have z1 : z ≤ 1024 := by omega
      have HZN := Lib.hid hzn
      clear hn hp hzn
      go_wp2_with fail
      exact bodyPost_ret (v := .tuple #[.int .i64 z, v, .bool true, .int .i64 0]) (by simp [results, Tryd.results16, go_sem]) rfl (by rw [HZN.out]; exact rh_ok HP.out (B1.trans ((below_drewN w1 _).mono B1.size)) (ownP_below OV (below_drewN _ _)))
    · have hzn := HZZ.out.2 hn
      have HP := Lib.hid (hp.trans (rh2_mbig (by decide) HR1.out (.inr HMM.out) hn))
      clear hn hp
      rcases hzn with hzn | hzn
      · go_wp2_with fail
        exact bodyPost_ret (v := .tuple #[.int .i64 0, .slice none 0 0, .bool false, .int .i64 3]) (by simp [results, Tryd.results16, go_sem]) rfl (rh_err HP.out (B1.trans ((below_drewN w1 _).mono B1.size)))
      · have hzn0 : 0 ≤ z := by omega
        go_wp2_with fail
        exact bodyPost_ret (v := .tuple #[.int .i64 0, .slice none 0 0, .bool false, .int .i64 3]) (by simp [results, Tryd.results16, go_sem]) rfl (rh_err HP.out (B1.trans ((below_drewN w1 _).mono B1.size)))
  have HP := Lib.hid (hp.trans (rh2_mbad (by decide) (fun h => h.2.elim hm1 hm2)))
  rw [hyr] at hy1
  have hb1 : (r.toList == [1]) = false := str_bne (l := [1]) hm1
  have hb2 : (r.toList == [2]) = false := str_bne (l := [2]) hm2
  clear hr0 hr1 hp hm1 hm2 hyr
  go_wp2_with fail
  go_quiet (fail)
  go_wp2_with fail
  exact bodyPost_ret (v := .tuple #[.int .i64 0, .slice none 0 0, .bool false, .int .i64 11]) (by simp [results, Tryd.results16, go_sem]) rfl (rh_err HP.out (B1.trans ((below_drewN w1 _).mono B1.size)))
set_option maxRecDepth 1000000 in
set_option maxHeartbeats 1000000 in
theorem rhX_f {w : World} (s : ByteArray) (hsI : (s.size : Int) ≤ 1073741824) (h0I : (14 : Int) ≤ s.size) {x0 x1 x2 x3 r0 : ByteArray} (ex0 : s.extract 0 2 = x0) (ex1 : s.extract 2 4 = x1) (ex2 : s.extract 4 12 = x2) (ex3 : s.extract 12 14 = x3) (er0 : s.extract 14 s.size = r0) (hrs : r0.size ≤ 1073741824) (f z : Int) (hf : ¬ bits BinOp.andNot IntKind.i64 f 12288 = 0) (Ba : Hid (∀ w : World, Calls Tryd.prog 23 #[.string x0] w fun e w' => e = .returned (.int .i64 (60)) ∧ w = w')) (Bb : Hid (∀ w : World, Calls Tryd.prog 23 #[.string x1] w fun e w' => e = .returned (.int .i64 (0)) ∧ w = w')) (Bn : Hid (∀ w : World, Calls Tryd.prog 23 #[.string x2] w fun e w' => e = .returned (.int .i64 (z)) ∧ w' = w)) (Bf : Hid (∀ w : World, Calls Tryd.prog 23 #[.string x3] w fun e w' => e = .returned (.int .i64 (f)) ∧ w' = w)) (HP : Hid (rhP s = .err 11)) :
    Calls Tryd.prog 16 #[.string s] w (RHPost w (rhP s)) := by
  clear hrs
  have hfb : (bits BinOp.andNot IntKind.i64 f 12288 != 0) = true := bne_iff_ne.2 hf
  go_enter Tryd.func16, Tryd.ntmps16
  go_upto_region 3 with (first | (go_at_call 23; with_reducible refine (Bb.out _).mono ?_; rintro e w1 ⟨rfl, rfl⟩) | (go_at_call 23; with_reducible refine (Ba.out _).mono ?_; rintro e w1 ⟨rfl, rfl⟩))
  go_quiet ((first | (go_at_call 23; with_reducible exact Calls.quiet_of_same (Bf.out _)) | (go_at_call 23; with_reducible exact Calls.quiet_of_same (Bn.out _))))
  go_wp2_with fail
  exact bodyPost_ret (v := .tuple #[.int .i64 0, .slice none 0 0, .bool false, .int .i64 11]) (by simp [results, Tryd.results16, go_sem]) rfl (rh_err HP.out (below_drewN w nq))
theorem readHead_c {w : World} (s : ByteArray) (hs : s.size ≤ 1073741824) :
    Calls Tryd.prog 16 #[.string s] w (RHPost w (rhP s)) := by
  by_cases h0 : s.size < 14
  · exact rhX_short s h0
  have hsI : (s.size : Int) ≤ 1073741824 := by omega
  have h0I : (14 : Int) ≤ s.size := by omega
  have hp : rhP s = rhQ (fld s 0 2) (fld s 2 4) (fld s 4 12) (fld s 12 14) (s.extract 14 s.size) := by unfold rhP; rw [if_neg h0]
  have Ba : Hid (∀ w : World, Calls Tryd.prog 23 #[.string (s.extract 0 2)] w fun e w' => e = .returned (.int .i64 ((fld s 0 2 : Nat) : Int)) ∧ w = w') := Lib.hid fun w => bigN_c _ (by rw [ByteArray.size_extract]; omega)
  have Bb : Hid (∀ w : World, Calls Tryd.prog 23 #[.string (s.extract 2 4)] w fun e w' => e = .returned (.int .i64 ((fld s 2 4 : Nat) : Int)) ∧ w = w') := Lib.hid fun w => bigN_c _ (by rw [ByteArray.size_extract]; omega)
  have Bn : Hid (∀ w : World, Calls Tryd.prog 23 #[.string (s.extract 4 12)] w fun e w' => e = .returned (.int .i64 (wrap64 ((fld s 4 12 : Nat) : Int))) ∧ w' = w) := Lib.hid fun w => (bigW_c _ (by rw [ByteArray.size_extract]; omega)).mono fun e w' ⟨a, b⟩ => ⟨a, b.symm⟩
  have Bf : Hid (∀ w : World, Calls Tryd.prog 23 #[.string (s.extract 12 14)] w fun e w' => e = .returned (.int .i64 ((fld s 12 14 : Nat) : Int)) ∧ w' = w) := Lib.hid fun w => (bigN_c _ (by rw [ByteArray.size_extract]; omega)).mono fun e w' ⟨a, b⟩ => ⟨a, b.symm⟩
  have hf16 : fld s 12 14 < 65536 := fld_lt s 12 14
  have HZZ := Lib.hid (size_z (show fld s 4 12 < 18446744073709551616 from fld_lt s 4 12))
  have hrs : (s.extract 14 s.size).size ≤ 1073741824 := by rw [ByteArray.size_extract]; omega
  generalize fld s 0 2 = a at Ba hp
  generalize fld s 2 4 = b at Bb hp
  generalize fld s 4 12 = n at Bn hp HZZ
  generalize fld s 12 14 = f at Bf hp hf16
  unfold rhQ at hp
  by_cases h1 : a ≠ 60
  · rw [if_pos h1] at hp
    exact rhX_a s hsI h0I rfl rfl rfl rfl rfl hrs a (by omega) Ba (Lib.hid hp)
  rw [if_neg h1] at hp
  obtain rfl : a = 60 := by omega
  by_cases h2 : b ≠ 0
  · rw [if_pos h2] at hp
    exact rhX_b s hsI h0I rfl rfl rfl rfl rfl hrs b (by omega) Ba Bb (Lib.hid hp)
  rw [if_neg h2] at hp
  obtain rfl : b = 0 := by omega
  by_cases hf0 : f = 0
  · subst hf0
    rw [if_pos (.inl rfl)] at hp
    exact rhX_0 s hsI h0I rfl rfl rfl rfl rfl hrs n _ HZZ Ba Bb Bn Bf hp
  by_cases hf4096 : f = 4096
  · subst hf4096
    rw [if_pos (.inr rfl)] at hp
    exact rhX_4096 s hsI h0I rfl rfl rfl rfl rfl hrs n _ HZZ Ba Bb Bn Bf hp
  rw [if_neg (fun h => h.elim hf0 hf4096)] at hp
  by_cases hf8192 : f = 8192
  · subst hf8192
    rw [if_pos (.inl rfl)] at hp
    cases ho : tableP (s.extract 14 s.size) with
    | none =>
      rw [ho] at hp
      exact rhX_8192n s hsI h0I rfl rfl rfl rfl rfl hrs n _ HZZ Ba Bb Bn Bf ho (Lib.hid hp)
    | some p =>
      obtain ⟨ps, r⟩ := p
      rw [ho] at hp
      exact rhX_8192s s hsI h0I rfl rfl rfl rfl rfl hrs n _ HZZ Ba Bb Bn Bf ho hp
  by_cases hf12288 : f = 12288
  · subst hf12288
    rw [if_pos (.inr rfl)] at hp
    cases ho : tableP (s.extract 14 s.size) with
    | none =>
      rw [ho] at hp
      exact rhX_12288n s hsI h0I rfl rfl rfl rfl rfl hrs n _ HZZ Ba Bb Bn Bf ho (Lib.hid hp)
    | some p =>
      obtain ⟨ps, r⟩ := p
      rw [ho] at hp
      exact rhX_12288s s hsI h0I rfl rfl rfl rfl rfl hrs n _ HZZ Ba Bb Bn Bf ho hp
  rw [if_neg (fun h => h.elim hf8192 hf12288)] at hp
  exact rhX_f s hsI h0I rfl rfl rfl rfl rfl hrs f _ (flags_no hf16 hf0 hf4096 hf8192 hf12288) Ba Bb Bn Bf (Lib.hid hp)
end Go.Proofs.YtbniandbmabdbaaDoor

/- The reference's ReadHead, plain law: four numbers, one behind the other. -/
namespace Go.Proofs.YtbniandbmabdbaaDoor
open Go Go.RowKit
set_option linter.unusedSimpArgs false
set_option linter.unusedVariables false

theorem ext_list (s : ByteArray) (a : Nat) : (s.extract a s.size).data.toList = s.data.toList.drop a := by
  rw [ba_extract, List.take_of_length_le (by rw [ba_size]; exact Nat.le_refl _)]
theorem numP_at (s : ByteArray) (a k : Nat) (h : a + k ≤ s.size) : numP k (s.extract a s.size) = some (fld s a (a + k), s.extract (a + k) s.size) := by
  have hz : (s.extract a s.size).size = s.size - a := by rw [ByteArray.size_extract]; omega
  have e1 : (s.extract a s.size).extract 0 k = s.extract a (a + k) := by
    apply ba_ext
    rw [ba_extract, ext_list, ba_extract, List.drop_zero, List.drop_take, Nat.add_sub_cancel_left]
  have e2 : (s.extract a s.size).extract k (s.extract a s.size).size = s.extract (a + k) s.size := by
    apply ba_ext
    rw [ext_list, ext_list, ext_list, List.drop_drop]
  unfold numP takeP
  rw [if_pos (by omega), Option.map_some, e1, e2]
  rfl
theorem numP_at0 (s : ByteArray) (k : Nat) (h : k ≤ s.size) : numP k s = some (fld s 0 k, s.extract k s.size) := by
  have e : s.extract 0 s.size = s := by
    apply ba_ext
    rw [ext_list, List.drop_zero]
  have := numP_at s 0 k (by omega)
  rw [e, Nat.zero_add] at this
  exact this
theorem numP_few (s : ByteArray) (a k : Nat) (h : s.size < a + k) (h0 : 0 < k) : numP k (s.extract a s.size) = none := by
  unfold numP takeP
  rw [if_neg (by rw [ByteArray.size_extract]; omega)]
  rfl
end Go.Proofs.YtbniandbmabdbaaDoor

/- The reference s reader. -/
namespace Go.Proofs.YtbniandbmabdbaaDoor
open Go Go.RowKit
set_option linter.unusedSimpArgs false
set_option linter.unusedVariables false

/-- Block R is a reader of s. -/
def RR (w : World) (R : Nat) (s : ByteArray) (bad : Bool) : Prop := w.heap[R]? = some (.cells #[.string s, .bool bad] 52 (0, 0))
theorem rr_facts {w : World} {R : Nat} {s : ByteArray} {bad : Bool} (h : RR w R s bad) :
    w.cell? ⟨R, 0, none⟩ = some (.string s) ∧ w.cell? ⟨R, 1, none⟩ = some (.bool bad) ∧ w.frozen? ⟨R, 0, none⟩ = false ∧ w.frozen? ⟨R, 1, none⟩ = false := by
  refine ⟨?_, ?_, ?_, ?_⟩ <;> simp [World.cell?, World.frozen?, show w.heap[R]? = _ from h]
theorem rr_set0 {w : World} {R : Nat} {s : ByteArray} {bad : Bool} (h : RR w R s bad) (s' : ByteArray) : RR (w.setCell ⟨R, 0, none⟩ (.string s')) R s' bad := by
  unfold RR at h ⊢
  simp [World.setCell, Array.getElem?_modify, h]
theorem rr_set1 {w : World} {R : Nat} {s : ByteArray} {bad : Bool} (h : RR w R s bad) (b' : Bool) : RR (w.setCell ⟨R, 1, none⟩ (.bool b')) R s b' := by
  unfold RR at h ⊢
  simp [World.setCell, Array.getElem?_modify, h]

/-- What Take answers, what is left. -/
def tkOk (n : Int) (s : ByteArray) (bad : Bool) : Bool := !bad && decide (0 ≤ n) && decide (n ≤ s.size)
def tkOut (n : Int) (s : ByteArray) (bad : Bool) : ByteArray := if tkOk n s bad = true then s.extract 0 n.toNat else ByteArray.empty
def tkS (n : Int) (s : ByteArray) (bad : Bool) : ByteArray := if tkOk n s bad = true then s.extract n.toNat s.size else s
def tkBad (n : Int) (s : ByteArray) (bad : Bool) : Bool := !tkOk n s bad

def TkPost (w : World) (R : Nat) (v : Value) (s : ByteArray) (bad : Bool) (e : Ending) (w' : World) : Prop :=
  e = .returned v ∧ RR w' R s bad ∧ w.grownBy w' (some R)

set_option maxRecDepth 1000000 in
set_option maxHeartbeats 2000000 in
theorem refTake_c {w : World} {R : Nat} {s : ByteArray} {bad : Bool} (h : RR w R s bad) (n : Int) :
    Calls Tryd.prog 25 #[.pointer (some ⟨R, 0, none⟩), .int .i64 n] w (TkPost w R (.string (tkOut n s bad)) (tkS n s bad) (tkBad n s bad)) := by
  obtain ⟨c0, c1, f0, f1⟩ := rr_facts h
  have H := Lib.hid h
  clear h
  cases bad with
  | true =>
    have e1 : tkOut n s true = ByteArray.empty := rfl
    have e2 : tkS n s true = s := rfl
    have e3 : tkBad n s true = true := rfl
    rw [e1, e2, e3]
    clear e1 e2 e3
    go_enter Tryd.func25, Tryd.ntmps25
    go_wp2
    go_ret
    exact ⟨rfl, rr_set1 H.out true, grownBy_set _ R 1 _⟩
  | false =>
    by_cases h0 : n < 0
    · have e0 : tkOk n s false = false := by unfold tkOk; simp; omega
      rw [tkOut, tkS, tkBad, e0]
      clear e0
      go_enter Tryd.func25, Tryd.ntmps25
      go_wp2
      go_ret
      exact ⟨rfl, rr_set1 H.out true, grownBy_set _ R 1 _⟩
    · have h0' : 0 ≤ n := by omega
      by_cases h1 : (s.size : Int) < n
      · have e0 : tkOk n s false = false := by unfold tkOk; simp; omega
        rw [tkOut, tkS, tkBad, e0]
        clear e0 h0
        go_enter Tryd.func25, Tryd.ntmps25
        go_wp2
        go_ret
        exact ⟨rfl, rr_set1 H.out true, grownBy_set _ R 1 _⟩
      · have e0 : tkOk n s false = true := by unfold tkOk; simp; omega
        have h1' : n ≤ s.size := by omega
        have ht : n.toNat ≤ s.size := by omega
        rw [tkOut, tkS, tkBad, e0, if_pos rfl, if_pos rfl]
        clear e0 h0 h1
        go_enter Tryd.func25, Tryd.ntmps25
        go_wp2
        go_ret
        exact ⟨rfl, rr_set0 H.out _, grownBy_set _ R 0 _⟩

theorem tkOut_size (n : Int) (s : ByteArray) (bad : Bool) (k : Nat) (h : n ≤ k) : (tkOut n s bad).size ≤ k := by
  unfold tkOut
  split
  · rw [ByteArray.size_extract]; omega
  · exact Nat.zero_le _

set_option maxRecDepth 1000000 in
set_option maxHeartbeats 2000000 in
theorem refNumber_c {w : World} {R : Nat} {s : ByteArray} {bad : Bool} (h : RR w R s bad) (n : Int) (hn : n ≤ 8) :
    Calls Tryd.prog 24 #[.pointer (some ⟨R, 0, none⟩), .int .i64 n] w (TkPost w R (.int .u64 (natB (tkOut n s bad).data.toList)) (tkS n s bad) (tkBad n s bad)) := by
  have HT := Lib.hid (refTake_c h n)
  have hx := tkOut_size n s bad 8 hn
  obtain ⟨x, hxe⟩ : ∃ x, x = tkOut n s bad := ⟨_, rfl⟩
  rw [← hxe] at HT hx
  rw [← hxe]
  clear hxe h
  have hsl : x.data.toList.length = x.size := by rw [Array.length_toList]; rfl
  have HSL := Lib.hid hsl
  clear hsl
  go_enter Tryd.func24, Tryd.ntmps24
  go_wp2_with fail
  refine (HT.out).mono ?_
  rintro e w1 ⟨rfl, r1, g1⟩
  have R1 := Lib.hid r1
  have G1 := Lib.hid g1
  clear r1 g1
  go_wp2
  go_loop [6, 7] (fun a i => ∃ k : Nat, k ≤ x.size ∧ i = .int .i64 k ∧ a = .int .u64 (natB (x.data.toList.take k))) (fun _ i => x.size - (intOf i).toNat)
  case atStart => exact ⟨0, Nat.zero_le _, rfl, rfl⟩
  case round =>
    obtain ⟨k, hk, rfl, rfl⟩ := hrel
    by_cases hlt : k < x.size
    · have hlt' : (k : Int) < x.size := by omega
      have hz : natB (x.data.toList.take k) < 256 ^ 7 := by
        refine Nat.lt_of_lt_of_le (natB_lt _) (Nat.pow_le_pow_right (by omega) ?_)
        rw [List.length_take]; omega
      have hb := UInt8.toNat_lt x[k]
      obtain ⟨z, hze⟩ : ∃ z, z = natB (x.data.toList.take k) := ⟨_, rfl⟩
      have hnx : natB (x.data.toList.take (k + 1)) = z * 256 + x[k].toNat := by
        rw [List.take_add_one, ba_at x k hlt, hze]
        exact natB_snoc _ _
      have HNX := Lib.hid hnx
      rw [← hze] at hz ⊢
      clear hnx hze
      have h256 : (256 : Nat) ^ 7 = 72057594037927936 := by decide
      rw [h256] at hz
      clear h256
      have hz1 : (z : Int) * 256 ≤ 18446744073709551360 := by omega
      have hz2 : (z : Int) * 256 + (x[k].toNat : Int) ≤ 18446744073709551615 := by omega
      have hz3 : (z : Int) < 72057594037927936 := by omega
      have hb3 : (x[k].toNat : Int) < 256 := by omega
      clear hz hb
      go_wp2

      go_round
      case rel => exact ⟨k + 1, by omega, by go_num, by rw [HNX.out, Int.natCast_add, Int.natCast_mul]; rfl⟩
      case measure => simp [intOf]; omega
    · have hd : x.data.toList.take k = x.data.toList := List.take_of_length_le (by have := HSL.out; omega)
      rw [hd]
      go_wp2
      go_ret
      exact ⟨rfl, R1.out, G1.out⟩


/-- Block R is a reader of what is left; none: something was not there. -/
def RX (w : World) (R : Nat) : Option ByteArray → Prop
  | some s => RR w R s false
  | none => ∃ s, RR w R s true
def outX {X : Type} (d : X) : Option (X × ByteArray) → X
  | some p => p.1
  | none => d
def leftX {X : Type} (o : Option (X × ByteArray)) : Option ByteArray := o.map (·.2)
def XPost {X : Type} (w : World) (R : Nat) (f : X → Value) (d : X) (o : Option (X × ByteArray)) (e : Ending) (w' : World) : Prop :=
  e = .returned (f (outX d o)) ∧ RX w' R (leftX o) ∧ w.grownBy w' (some R)
theorem xTake_c {w : World} {R : Nat} {o : Option ByteArray} (h : RX w R o) (n : Nat) (ni : Int) (hni : ni = n) :
    Calls Tryd.prog 25 #[.pointer (some ⟨R, 0, none⟩), .int .i64 ni] w (XPost w R Value.string ByteArray.empty (o.bind (takeP n))) := by
  subst hni
  cases o with
  | none =>
    obtain ⟨s, h⟩ := h
    refine (refTake_c h n).mono ?_
    rintro e w' ⟨he, hr, hg⟩
    exact ⟨he, ⟨s, hr⟩, hg⟩
  | some s =>
    refine (refTake_c h n).mono ?_
    rintro e w' ⟨he, hr, hg⟩
    show XPost w R Value.string ByteArray.empty (takeP n s) e w'
    by_cases hn : n ≤ s.size
    · have e0 : tkOk n s false = true := by unfold tkOk; simp; omega
      have e1 : takeP n s = some (s.extract 0 n, s.extract n s.size) := by unfold takeP; rw [if_pos hn]
      rw [tkOut, e0, if_pos rfl] at he
      rw [tkS, tkBad, e0, if_pos rfl] at hr
      rw [e1]
      exact ⟨he, hr, hg⟩
    · have e0 : tkOk n s false = false := by unfold tkOk; simp; omega
      have e1 : takeP n s = none := by unfold takeP; rw [if_neg hn]
      rw [tkOut, e0, if_neg (by decide)] at he
      rw [tkS, tkBad, e0, if_neg (by decide)] at hr
      rw [e1]
      exact ⟨he, ⟨s, hr⟩, hg⟩
theorem xNumber_c {w : World} {R : Nat} {o : Option ByteArray} (h : RX w R o) (n : Nat) (hn8 : n ≤ 8) (ni : Int) (hni : ni = n) :
    Calls Tryd.prog 24 #[.pointer (some ⟨R, 0, none⟩), .int .i64 ni] w (XPost w R (fun k : Nat => Value.int .u64 k) 0 (o.bind (numP n))) := by
  subst hni
  cases o with
  | none =>
    obtain ⟨s, h⟩ := h
    refine (refNumber_c h n (by omega)).mono ?_
    rintro e w' ⟨he, hr, hg⟩
    exact ⟨he, ⟨s, hr⟩, hg⟩
  | some s =>
    refine (refNumber_c h n (by omega)).mono ?_
    rintro e w' ⟨he, hr, hg⟩
    show XPost w R (fun k : Nat => Value.int .u64 k) 0 (numP n s) e w'
    by_cases hn : n ≤ s.size
    · have e0 : tkOk n s false = true := by unfold tkOk; simp; omega
      have e1 : numP n s = some (natB (s.extract 0 n).data.toList, s.extract n s.size) := by unfold numP takeP; rw [if_pos hn]; rfl
      rw [tkOut, e0, if_pos rfl] at he
      rw [tkS, tkBad, e0, if_pos rfl] at hr
      rw [e1]
      exact ⟨he, hr, hg⟩
    · have e0 : tkOk n s false = false := by unfold tkOk; simp; omega
      have e1 : numP n s = none := by unfold numP takeP; rw [if_neg hn]; rfl
      rw [tkOut, e0, if_neg (by decide)] at he
      rw [tkS, tkBad, e0, if_neg (by decide)] at hr
      rw [e1]
      exact ⟨he, ⟨s, hr⟩, hg⟩
theorem grown_trans {w w1 w2 : World} {R : Nat} (h1 : w.grownBy w1 (some R)) (h2 : w1.grownBy w2 (some R)) : w.grownBy w2 (some R) := h1.trans h2
end Go.Proofs.YtbniandbmabdbaaDoor

/- The reference's reader: short and long texts; numbers with their sign. -/
namespace Go.Proofs.YtbniandbmabdbaaDoor
open Go Go.RowKit
set_option linter.unusedSimpArgs false
set_option linter.unusedVariables false

theorem bind_num {o : Option ByteArray} {k n : Nat} {r : ByteArray} (h : o.bind (numP k) = some (n, r)) : n < 256 ^ k := by
  cases o with
  | none => cases h
  | some s => exact numP_lt h

theorem bind_shortP (o : Option ByteArray) : o.bind shortP = (o.bind (numP 1)).bind fun p => takeP p.1 p.2 := by cases o <;> rfl
set_option maxRecDepth 100000 in
set_option maxHeartbeats 1000000 in
theorem xShort_c {w : World} {R : Nat} {o : Option ByteArray} (h : RX w R o) :
    Calls Tryd.prog 44 #[.pointer (some ⟨R, 0, none⟩)] w (XPost w R Value.string ByteArray.empty (o.bind shortP)) := by
  have HN := Lib.hid (xNumber_c h 1 (by omega) 1 rfl)
  rw [bind_shortP]
  clear h
  cases hy : o.bind (numP 1) with
  | none =>
    rw [hy] at HN
    clear hy
    go_enter Tryd.func44, Tryd.ntmps44
    go_wp2_with fail
    refine (HN.out).mono ?_
    rintro e w1 ⟨rfl, r1, g1⟩
    have HT := Lib.hid (xTake_c (o := none) r1 0 0 rfl)
    have hz : outX 0 (none : Option (Nat × ByteArray)) = 0 := rfl
    clear r1
    go_wp2_with fail
    refine (HT.out).mono ?_
    rintro e w2 ⟨rfl, r2, g2⟩
    go_wp2_with fail
    go_ret
    exact ⟨rfl, r2, g1.trans g2⟩
  | some q =>
    obtain ⟨n, r⟩ := q
    have hn := bind_num hy
    rw [hy] at HN
    have hw : IntKind.i64.wrap (n : Int) = (n : Int) := IntWalk.i64_in _ (by omega)
    have hz : outX 0 (some (n, r)) = n := rfl
    clear hy hn
    go_enter Tryd.func44, Tryd.ntmps44
    go_wp2_with fail
    refine (HN.out).mono ?_
    rintro e w1 ⟨rfl, r1, g1⟩
    have HT := Lib.hid (xTake_c (o := some r) r1 n n rfl)
    clear r1
    go_wp2_with fail
    refine (HT.out).mono ?_
    rintro e w2 ⟨rfl, r2, g2⟩
    go_wp2_with fail
    go_ret
    exact ⟨rfl, r2, g1.trans g2⟩

theorem bind_longP (o : Option ByteArray) : o.bind longP = (o.bind (numP 4)).bind fun p => takeP p.1 p.2 := by cases o <;> rfl
set_option maxRecDepth 100000 in
set_option maxHeartbeats 1000000 in
theorem xLong_c {w : World} {R : Nat} {o : Option ByteArray} (h : RX w R o) :
    Calls Tryd.prog 43 #[.pointer (some ⟨R, 0, none⟩)] w (XPost w R Value.string ByteArray.empty (o.bind longP)) := by
  have HN := Lib.hid (xNumber_c h 4 (by omega) 4 rfl)
  rw [bind_longP]
  clear h
  cases hy : o.bind (numP 4) with
  | none =>
    rw [hy] at HN
    clear hy
    go_enter Tryd.func43, Tryd.ntmps43
    go_wp2_with fail
    refine (HN.out).mono ?_
    rintro e w1 ⟨rfl, r1, g1⟩
    have HT := Lib.hid (xTake_c (o := none) r1 0 0 rfl)
    have hz : outX 0 (none : Option (Nat × ByteArray)) = 0 := rfl
    clear r1
    go_wp2_with fail
    refine (HT.out).mono ?_
    rintro e w2 ⟨rfl, r2, g2⟩
    go_wp2_with fail
    go_ret
    exact ⟨rfl, r2, g1.trans g2⟩
  | some q =>
    obtain ⟨n, r⟩ := q
    have hn := bind_num hy
    rw [hy] at HN
    have hw : IntKind.i64.wrap (n : Int) = (n : Int) := IntWalk.i64_in _ (by omega)
    have hz : outX 0 (some (n, r)) = n := rfl
    clear hy hn
    go_enter Tryd.func43, Tryd.ntmps43
    go_wp2_with fail
    refine (HN.out).mono ?_
    rintro e w1 ⟨rfl, r1, g1⟩
    have HT := Lib.hid (xTake_c (o := some r) r1 n n rfl)
    clear r1
    go_wp2_with fail
    refine (HT.out).mono ?_
    rintro e w2 ⟨rfl, r2, g2⟩
    go_wp2_with fail
    go_ret
    exact ⟨rfl, r2, g1.trans g2⟩

set_option maxRecDepth 100000 in
set_option maxHeartbeats 1000000 in
theorem signed8_c {w : World} (n : Nat) (hn : n < 256) :
    Calls Tryd.prog 61 #[.int .u64 n, .int .u64 8] w fun e w' => e = .returned (.int .i64 (sgn 8 n)) ∧ w = w' := by
  have hw : IntKind.i64.wrap (n : Int) = (n : Int) := IntWalk.i64_in _ (by omega)
  by_cases h : n < 128
  · have e : sgn 8 n = (n : Int) := by unfold sgn; rw [if_pos h]
    have h' : (n : Int) < 128 := by omega
    rw [e]
    obtain ⟨N, hN⟩ : ∃ N : Int, N = (n : Int) := ⟨_, rfl⟩
    rw [← hN] at h' hw ⊢
    clear e h hn hN
    go_enter Tryd.func61, Tryd.ntmps61
    go_wp2_with fail
    go_ret
    exact ⟨rfl, rfl⟩
  · have e : sgn 8 n = (n : Int) - 256 := by unfold sgn; rw [if_neg h]; rfl
    have h' : (128 : Int) ≤ n := by omega
    have hs : IntKind.i64.wrap ((n : Int) - 256) = (n : Int) - 256 := IntWalk.i64_in _ (by omega)
    rw [e]
    obtain ⟨N, hN⟩ : ∃ N : Int, N = (n : Int) := ⟨_, rfl⟩
    rw [← hN] at h' hs hw ⊢
    obtain ⟨z, hz⟩ : ∃ z : Int, z = N - 256 := ⟨_, rfl⟩
    have hs2 : IntKind.i64.wrap (N - 256) = z := hs.trans hz.symm
    rw [← hz]
    clear e h hn hN hs hz
    go_enter Tryd.func61, Tryd.ntmps61
    go_upto_region 2 with fail
    clear h'
    go_wp2_with fail
    go_ret
    exact ⟨rfl, rfl⟩

set_option maxRecDepth 100000 in
set_option maxHeartbeats 1000000 in
theorem signed16_c {w : World} (n : Nat) (hn : n < 65536) :
    Calls Tryd.prog 61 #[.int .u64 n, .int .u64 16] w fun e w' => e = .returned (.int .i64 (sgn 16 n)) ∧ w = w' := by
  have hw : IntKind.i64.wrap (n : Int) = (n : Int) := IntWalk.i64_in _ (by omega)
  by_cases h : n < 32768
  · have e : sgn 16 n = (n : Int) := by unfold sgn; rw [if_pos h]
    have h' : (n : Int) < 32768 := by omega
    rw [e]
    obtain ⟨N, hN⟩ : ∃ N : Int, N = (n : Int) := ⟨_, rfl⟩
    rw [← hN] at h' hw ⊢
    clear e h hn hN
    go_enter Tryd.func61, Tryd.ntmps61
    go_wp2_with fail
    go_ret
    exact ⟨rfl, rfl⟩
  · have e : sgn 16 n = (n : Int) - 65536 := by unfold sgn; rw [if_neg h]; rfl
    have h' : (32768 : Int) ≤ n := by omega
    have hs : IntKind.i64.wrap ((n : Int) - 65536) = (n : Int) - 65536 := IntWalk.i64_in _ (by omega)
    rw [e]
    obtain ⟨N, hN⟩ : ∃ N : Int, N = (n : Int) := ⟨_, rfl⟩
    rw [← hN] at h' hs hw ⊢
    obtain ⟨z, hz⟩ : ∃ z : Int, z = N - 65536 := ⟨_, rfl⟩
    have hs2 : IntKind.i64.wrap (N - 65536) = z := hs.trans hz.symm
    rw [← hz]
    clear e h hn hN hs hz
    go_enter Tryd.func61, Tryd.ntmps61
    go_upto_region 2 with fail
    clear h'
    go_wp2_with fail
    go_ret
    exact ⟨rfl, rfl⟩

set_option maxRecDepth 100000 in
set_option maxHeartbeats 1000000 in
theorem signed32_c {w : World} (n : Nat) (hn : n < 4294967296) :
    Calls Tryd.prog 61 #[.int .u64 n, .int .u64 32] w fun e w' => e = .returned (.int .i64 (sgn 32 n)) ∧ w = w' := by
  have hw : IntKind.i64.wrap (n : Int) = (n : Int) := IntWalk.i64_in _ (by omega)
  by_cases h : n < 2147483648
  · have e : sgn 32 n = (n : Int) := by unfold sgn; rw [if_pos h]
    have h' : (n : Int) < 2147483648 := by omega
    rw [e]
    obtain ⟨N, hN⟩ : ∃ N : Int, N = (n : Int) := ⟨_, rfl⟩
    rw [← hN] at h' hw ⊢
    clear e h hn hN
    go_enter Tryd.func61, Tryd.ntmps61
    go_wp2_with fail
    go_ret
    exact ⟨rfl, rfl⟩
  · have e : sgn 32 n = (n : Int) - 4294967296 := by unfold sgn; rw [if_neg h]; rfl
    have h' : (2147483648 : Int) ≤ n := by omega
    have hs : IntKind.i64.wrap ((n : Int) - 4294967296) = (n : Int) - 4294967296 := IntWalk.i64_in _ (by omega)
    rw [e]
    obtain ⟨N, hN⟩ : ∃ N : Int, N = (n : Int) := ⟨_, rfl⟩
    rw [← hN] at h' hs hw ⊢
    obtain ⟨z, hz⟩ : ∃ z : Int, z = N - 4294967296 := ⟨_, rfl⟩
    have hs2 : IntKind.i64.wrap (N - 4294967296) = z := hs.trans hz.symm
    rw [← hz]
    clear e h hn hN hs hz
    go_enter Tryd.func61, Tryd.ntmps61
    go_upto_region 2 with fail
    clear h'
    go_wp2_with fail
    go_ret
    exact ⟨rfl, rfl⟩

set_option maxRecDepth 100000 in
set_option maxHeartbeats 1000000 in
theorem signed64_c {w : World} (n : Nat) (hn : n < 18446744073709551616) :
    Calls Tryd.prog 61 #[.int .u64 n, .int .u64 64] w fun e w' => e = .returned (.int .i64 (sgn 64 n)) ∧ w = w' := by
  have hw : IntKind.i64.wrap (n : Int) = sgn 64 n := by
    rw [IntKind.wrap_i64]
    unfold sgn
    rw [show (2 ^ (64 - 1) : Nat) = 9223372036854775808 from rfl, show (2 ^ 64 : Int) = 18446744073709551616 from rfl]
    split <;> omega
  obtain ⟨z, hz⟩ : ∃ z, z = sgn 64 n := ⟨_, rfl⟩
  rw [← hz] at hw ⊢
  obtain ⟨N, hN⟩ : ∃ N : Int, N = (n : Int) := ⟨_, rfl⟩
  rw [← hN] at hw ⊢
  clear hz hn hN
  go_enter Tryd.func61, Tryd.ntmps61
  go_wp2_with fail
  go_ret
  exact ⟨by first | rfl | (rw [← hw]; rfl) | (simp [hw]; done), rfl⟩
end Go.Proofs.YtbniandbmabdbaaDoor

/- Layer 15, the reference: numbers as bytes; a float of its bits. -/
namespace Go.Proofs.YtbniandbmabdbaaDoor
open Go Go.RowKit
set_option linter.unusedSimpArgs false
set_option linter.unusedVariables false

set_option maxRecDepth 100000 in
set_option maxHeartbeats 1000000 in
theorem refBig_c {w : World} {base : Nat} {v : Value} {l : List UInt8} (h : OB w base v l) (hB : base ≤ w.heap.size) (hl : l.length ≤ 70368744177664) (n : Nat) (hn : n < 18446744073709551616) (k : Nat) (hk : k ≤ 8) :
    Calls Tryd.prog 22 #[v, .int .u64 n, .int .i64 k] w fun e w' => ∃ v', e = .returned v' ∧ OB w' base v' (l ++ beB n k) ∧ Below base w w' := by
  have H := Lib.hid h
  clear h
  go_enter Tryd.func22, Tryd.ntmps22
  go_wp2
  go_loopw [0, 7] (fun x i wr => ∃ (m r : Nat) (pre : List UInt8), m + r = k ∧ i = .int .i64 m ∧ Hid (pre ++ beB n r = beB n k) ∧ Hid (OB wr base x (l ++ pre)) ∧ Below base w wr) (fun _ i _ => k - (intOf i).toNat)
  case atStart => exact ⟨0, k, [], by omega, rfl, Lib.hid rfl, by simpa [Lib.hid] using H, Below.refl _ _⟩
  case round =>
    obtain ⟨m, r, pre, hr, rfl, HP, O2, b2⟩ := hrel
    cases r with
    | zero =>
      have hm : k ≤ m := by omega
      have hm2 : m ≤ k := by omega
      clear hr
      go_wp2
      go_ret
      have := HP.out
      simp only [beB, List.append_nil] at this
      exact ⟨_, rfl, by rw [← this]; exact O2.out, b2⟩
    | succ r =>
      have hm : m < k := by omega
      have hpl : pre.length ≤ 8 := by
        have := congrArg List.length HP.out
        rw [List.length_append, beB_len, beB_len] at this
        omega
      have hs1 : (k : Int) - 1 - (m : Int) = (r : Int) := by omega
      clear hr
      go_wp2_with (at_builtin; refine app_b (w0 := w) (base := base) (l := l ++ pre) (m := [dig n r]) rfl (.tmp 13) (.tmp 23) rfl rfl rfl (O2.out.alloc _) (rb_dig wr _ _ (dig_val n r)) (b2.alloc (by have := b2.size; omega) _) (by have := b2.size; simp; omega) (by simp; omega) ?_; intro v4 w4 o4 b4 _ _; have O4 := Lib.hid o4; clear o4)
      go_roundw
      case rel => exact ⟨m + 1, r, pre ++ [dig n r], by omega, by go_num, Lib.hid (by have := HP.out; simpa [beB] using this), Lib.hid (by have := O4.out; rwa [List.append_assoc] at this), b4⟩
      case measure => simp [intOf]; omega

theorem from_c {w : World} (n : Nat) : Calls Tryd.prog 63 #[.int .u64 n] w fun e w' => e = .returned (.float .f64 n) ∧ w = w' := by
  have q := from64_run
  go_enter Tryd.func63, Tryd.ntmps63
  go_wp2_with fail
  go_ret
  exact ⟨rfl, rfl⟩
end Go.Proofs.YtbniandbmabdbaaDoor

/- The reference's sameness: floats, values, lists of properties. -/
namespace Go.Proofs.YtbniandbmabdbaaDoor
open Go Go.RowKit Go.Sort
set_option linter.unusedSimpArgs false
set_option linter.unusedVariables false

theorem str_ne {a b : ByteArray} (h : a ≠ b) : (a.toList == b.toList) = false := by
  refine beq_eq_false_iff_ne.2 fun e => h ?_
  rw [ByteArray.toList_eq, ByteArray.toList_eq] at e
  exact ba_ext e

set_option maxRecDepth 100000 in
theorem rawSame_c {w : World} (r r' : Nat) :
    Calls Tryd.prog 46 #[.float .f64 r, .float .f64 r'] w fun e w' => e = .returned (.bool (decide (r = r'))) ∧ w = w' := by
  have q := bits64_run
  by_cases h : r = r'
  · subst h
    rw [decide_eq_true rfl]
    go_enter Tryd.func46, Tryd.ntmps46
    go_wp2_with fail
    go_ret
    exact ⟨rfl, rfl⟩
  · have hb : ((r : Int) == (r' : Int)) = false := beq_eq_false_iff_ne.2 (by omega)
    rw [decide_eq_false h]
    clear h
    go_enter Tryd.func46, Tryd.ntmps46
    go_wp2_with fail
    go_ret
    exact ⟨rfl, rfl⟩

def valSame (k n : Int) (t : ByteArray) (r : Nat) (k' n' : Int) (t' : ByteArray) (r' : Nat) : Bool := decide (k = k' ∧ n = n' ∧ t = t' ∧ r = r')
set_option maxRecDepth 100000 in
set_option maxHeartbeats 1000000 in
theorem valSame_c {w : World} (k n : Int) (t : ByteArray) (r : Nat) (k' n' : Int) (t' : ByteArray) (r' : Nat) :
    Calls Tryd.prog 31 #[.agg #[.int .i64 k, .int .i64 n, .string t, .float .f64 r], .agg #[.int .i64 k', .int .i64 n', .string t', .float .f64 r']] w fun e w' => e = .returned (.bool (valSame k n t r k' n' t' r')) ∧ Below w.heap.size w w' := by
  have bW := ((Below.refl w.heap.size w).alloc (Nat.le_refl _) (.cells #[.int .i64 k, .int .i64 n, .string t, .float .f64 r] 57)).alloc (by show _ ≤ (w.heap.push _).size; simp) (.cells #[.int .i64 k', .int .i64 n', .string t', .float .f64 r'] 57)
  by_cases hk : k = k'
  · subst hk
    by_cases hn : n = n'
    · subst hn
      by_cases ht : t = t'
      · subst ht
        have e : valSame k n t r k n t r' = decide (r = r') := by unfold valSame; simp
        rw [e]
        clear e
        go_enter Tryd.func31, Tryd.ntmps31
        go_wp2_with fail
        refine (rawSame_c r r').mono ?_
        rintro e w1 ⟨rfl, rfl⟩
        go_wp2_with fail
        go_ret
        exact ⟨rfl, bW⟩
      · have e : valSame k n t r k n t' r' = false := by unfold valSame; simp [ht]
        have ht' := str_ne ht
        rw [e]
        clear e ht
        go_enter Tryd.func31, Tryd.ntmps31
        go_wp2_with fail
        go_ret
        exact ⟨rfl, bW⟩
    · have e : valSame k n t r k n' t' r' = false := by unfold valSame; simp [hn]
      have hn' : (n == n') = false := beq_eq_false_iff_ne.2 hn
      rw [e]
      clear e hn
      go_enter Tryd.func31, Tryd.ntmps31
      go_wp2_with fail
      go_ret
      exact ⟨rfl, bW⟩
  · have e : valSame k n t r k' n' t' r' = false := by unfold valSame; simp [hk]
    have hk' : (k == k') = false := beq_eq_false_iff_ne.2 hk
    rw [e]
    clear e hk
    go_enter Tryd.func31, Tryd.ntmps31
    go_wp2_with fail
    go_ret
    exact ⟨rfl, bW⟩
end Go.Proofs.YtbniandbmabdbaaDoor

/- The reference's floats: IsNaN, Canon; names. -/
namespace Go.Proofs.YtbniandbmabdbaaDoor
open Go Go.RowKit
set_option linter.unusedSimpArgs false
set_option linter.unusedVariables false

theorem nan_rung (r : Nat) : nanB r = decide (2047 * 2 ^ 52 < r % 2 ^ 63) := by
  show ((Ieee.double.read r).order (Ieee.double.read r) != some .eq) = _
  unfold Ieee.Format.read
  dsimp only
  rw [FloatL.D_sgn, FloatL.D_inf, FloatL.D_bin]
  by_cases h1 : r % 2 ^ 63 < 2 ^ 52
  · rw [if_pos h1, decide_eq_false (by omega)]
    simp [Ieee.Datum.order]
  · rw [if_neg h1]
    by_cases h2 : r % 2 ^ 63 < 2047 * 2 ^ 52
    · rw [if_pos h2, decide_eq_false (by omega)]
      simp [Ieee.Datum.order]
    · rw [if_neg h2]
      by_cases h3 : r % 2 ^ 63 = 2047 * 2 ^ 52
      · rw [if_pos h3, decide_eq_false (by omega)]
        simp [Ieee.Datum.order]
      · rw [if_neg h3, decide_eq_true (by omega)]
        rfl
theorem nan_bits (r : Nat) : nanB r = (decide (r / 2 ^ 52 % 2048 = 2047) && decide (r % 2 ^ 52 ≠ 0)) := by
  rw [nan_rung]
  by_cases h : 2047 * 2 ^ 52 < r % 2 ^ 63
  · rw [decide_eq_true h, decide_eq_true (by omega), decide_eq_true (by omega)]
    rfl
  · rw [decide_eq_false h]
    by_cases h1 : r / 2 ^ 52 % 2048 = 2047
    · rw [decide_eq_true h1, decide_eq_false (by omega)]
      rfl
    · rw [decide_eq_false h1]
      rfl
theorem and_mask (n k : Nat) (hn : n < 2 ^ 64) (hk : k ≤ 64) : bits BinOp.and IntKind.u64 (n : Int) ((2 ^ k - 1 : Nat) : Int) = ((n % 2 ^ k : Nat) : Int) := by
  have e64 : IntKind.u64.bits = 64 := rfl
  have hm : (BitVec.ofInt IntKind.u64.bits (n : Int) &&& BitVec.ofInt IntKind.u64.bits ((2 ^ k - 1 : Nat) : Int)).toNat = n % 2 ^ k := by
    have h2 : 2 ^ k ≤ 2 ^ 64 := Nat.pow_le_pow_right (by omega) hk
    have h3 : 0 < 2 ^ k := Nat.two_pow_pos k
    rw [BitVec.toNat_and, BitVec.ofInt_natCast, BitVec.ofInt_natCast, BitVec.toNat_ofNat, BitVec.toNat_ofNat, e64, Nat.mod_eq_of_lt hn, Nat.mod_eq_of_lt (by omega), Nat.and_two_pow_sub_one_eq_mod]
  show IntKind.u64.wrap (((BitVec.ofInt IntKind.u64.bits (n : Int) &&& BitVec.ofInt IntKind.u64.bits ((2 ^ k - 1 : Nat) : Int)).toNat : Nat) : Int) = _
  rw [hm]
  have h4 : n % 2 ^ k ≤ n := Nat.mod_le _ _
  show ((n % 2 ^ k : Nat) : Int) % 18446744073709551616 = _
  omega
set_option maxRecDepth 100000 in
set_option maxHeartbeats 1000000 in
theorem bits_c {w : World} (r : Nat) : Calls Tryd.prog 39 #[.float .f64 r] w fun e w' => e = .returned (.int .u64 r) ∧ w = w' := by
  have q := bits64_run
  go_enter Tryd.func39, Tryd.ntmps39
  go_wp2_with fail
  go_ret
  exact ⟨rfl, rfl⟩
set_option maxRecDepth 100000 in
set_option maxHeartbeats 1000000 in
theorem isNaN_c {w : World} (r : Nat) (hr : r < 18446744073709551616) : Calls Tryd.prog 52 #[.float .f64 r] w fun e w' => e = .returned (.bool (nanB r)) ∧ w = w' := by
  have a1 : bits BinOp.and IntKind.u64 ((r : Int) / 4503599627370496) 2047 = ((r / 4503599627370496 % 2048 : Nat) : Int) := and_mask (r / 4503599627370496) 11 (by omega) (by omega)
  have a2 : bits BinOp.and IntKind.u64 (r : Int) 4503599627370495 = ((r % 4503599627370496 : Nat) : Int) := and_mask r 52 hr (by omega)
  have hb := nan_bits r
  rw [show (2 ^ 52 : Nat) = 4503599627370496 from rfl] at hb
  obtain ⟨x, hx⟩ : ∃ x, x = r / 4503599627370496 % 2048 := ⟨_, rfl⟩
  obtain ⟨y, hy⟩ : ∃ y, y = r % 4503599627370496 := ⟨_, rfl⟩
  rw [← hx] at a1 hb
  rw [← hy] at a2 hb
  rw [hb]
  clear hx hy hb
  by_cases h1 : x = 2047
  · subst h1
    by_cases h2 : y = 0
    · subst h2
      go_enter Tryd.func52, Tryd.ntmps52
      go_wp2_with fail
      refine (bits_c r).mono ?_
      rintro e w1 ⟨rfl, rfl⟩
      go_wp2_with fail
      go_ret
      exact ⟨by first | rfl | (simp; done), rfl⟩
    · have hyb : ((y : Int) == 0) = false := beq_eq_false_iff_ne.2 (by omega)
      have hyc : ((y : Int) != 0) = true := bne_iff_ne.2 (by omega)
      have e : (decide (2047 = 2047) && decide (y ≠ 0)) = true := by rw [decide_eq_true h2]; rfl
      rw [e]
      clear e h2
      go_enter Tryd.func52, Tryd.ntmps52
      go_wp2_with fail
      refine (bits_c r).mono ?_
      rintro e w1 ⟨rfl, rfl⟩
      go_wp2_with fail
      go_ret
      exact ⟨by first | rfl | (simp; done), rfl⟩
  · have hxb : ((x : Int) == 2047) = false := beq_eq_false_iff_ne.2 (by omega)
    have e : (decide (x = 2047) && decide (y ≠ 0)) = false := by rw [decide_eq_false h1]; rfl
    rw [e]
    clear e h1
    go_enter Tryd.func52, Tryd.ntmps52
    go_wp2_with fail
    refine (bits_c r).mono ?_
    rintro e w1 ⟨rfl, rfl⟩
    go_wp2_with fail
    go_ret
    exact ⟨by first | rfl | (simp; done), rfl⟩
set_option maxRecDepth 100000 in
set_option maxHeartbeats 1000000 in
theorem refCanon_c {w : World} (r : Nat) (hr : r < 18446744073709551616) : Calls Tryd.prog 51 #[.float .f64 r] w fun e w' => e = .returned (.float .f64 (canonR r)) ∧ w = w' := by
  have h := isNaN_c (w := w) r hr
  clear hr
  cases hn : nanB r with
  | true =>
    have e : canonR r = 9221120237041090561 := by unfold canonR; rw [hn]; rfl
    rw [e]
    rw [hn] at h
    clear e hn
    go_enter Tryd.func51, Tryd.ntmps51
    go_wp2_with fail
    refine h.mono ?_
    rintro e w1 ⟨rfl, rfl⟩
    go_wp2_with fail
    refine (from_c 9221120237041090561).mono ?_
    rintro e w1 ⟨rfl, rfl⟩
    go_wp2_with fail
    go_ret
    exact ⟨rfl, rfl⟩
  | false =>
    have e : canonR r = r := by unfold canonR; rw [hn]; rfl
    rw [e]
    rw [hn] at h
    clear e hn
    go_enter Tryd.func51, Tryd.ntmps51
    go_wp2_with fail
    refine h.mono ?_
    rintro e w1 ⟨rfl, rfl⟩
    go_wp2_with fail
    go_ret
    exact ⟨rfl, rfl⟩
end Go.Proofs.YtbniandbmabdbaaDoor

/- The reference's Widen. -/
namespace Go.Proofs.YtbniandbmabdbaaDoor
open Go Go.RowKit
set_option linter.unusedSimpArgs false
set_option linter.unusedVariables false

theorem to64_nan2 {f : Nat} {s : Bool} {t : Nat} (h : Ieee.single.read f = .nan s t) (w : World) :
    ∃ b, (convert 92 55 (.float .f32 f)).run Tryd.prog w = .ok (.float .f64 b) w.drew ∧ nanB b = true ∧ b < 18446744073709551616 := by
  have h' : FloatKind.f32.decode f = .nan s t := h
  have u1 := Tryd.underlying55
  have u2 := Tryd.underlying92
  refine ⟨(Question.nanConv .f64 f).cut (w.tape w.drawn (.nanConv .f64 f)), ?_, ?_, ?_⟩
  · simp [convert, run_underlying u1, run_underlying u2, Conv.floatToFloat, h', Question.forced]
  · obtain ⟨a, b, hab⟩ := FloatL.nan_read (w.tape w.drawn (.nanConv .f64 f))
    have e : Ieee.double.read ((Question.nanConv .f64 f).cut (w.tape w.drawn (.nanConv .f64 f))) = .nan a b := hab
    show ((Ieee.double.read _).order (Ieee.double.read _) != some .eq) = true
    rw [e]
    rfl
  · generalize w.tape w.drawn (.nanConv .f64 f) = t
    show (t % 2) * 2 ^ 63 + 0x7ff0000000000000 + 1 + (t / 2) % (2 ^ 52 - 1) < 18446744073709551616
    omega
theorem to64_any2 (n : Nat) (w : World) : ∃ (b : Nat) (w1 : World), (convert 92 55 (.float .f32 n)).run Tryd.prog w = .ok (.float .f64 b) w1 ∧ (w1 = w ∨ w1 = w.drew) ∧ canonR b = widR n ∧ b < 18446744073709551616 := by
  have hw : ∀ d, Ieee.double.write d < 2 ^ 64 := fun d => Ieee.Format.write_lt Ieee.double d
  unfold widR widenE
  cases h : Ieee.single.read n with
  | number s m e => exact ⟨_, _, to64_num h w, .inl rfl, rfl, hw _⟩
  | infinity s => exact ⟨_, _, to64_inf h w, .inl rfl, rfl, hw _⟩
  | nan s t =>
    obtain ⟨b, h1, hn, hb⟩ := to64_nan2 h w
    refine ⟨b, _, h1, .inr rfl, ?_, hb⟩
    unfold canonR
    rw [hn]
    rfl
theorem from32_c {w : World} (n : Nat) : Calls Tryd.prog 73 #[.int .u32 n] w fun e w' => e = .returned (.float .f32 n) ∧ w = w' := by
  have q := from32_run
  go_enter Tryd.func73, Tryd.ntmps73
  go_wp2_with fail
  go_ret
  exact ⟨rfl, rfl⟩
set_option maxRecDepth 100000 in
theorem refWiden_c {w : World} (n : Nat) (ni : Int) (hni : ni = n) :
    Calls Tryd.prog 62 #[.int .u32 ni] w fun e w' => e = .returned (.float .f64 (widR n)) ∧ Below w.heap.size w w' := by
  subst hni
  obtain ⟨b, w1, hc, hw, hb, hlt⟩ := to64_any2 n w
  have HB := Lib.hid hb
  have HL := Lib.hid hlt
  have hW := Lib.hid (show Below w.heap.size w w1 by rcases hw with rfl | rfl; exact Below.refl _ _; exact (Below.refl _ _).drew)
  clear hb hw hlt
  go_enter Tryd.func62, Tryd.ntmps62
  go_wp2_with fail
  refine (from32_c n).mono ?_
  rintro e w2 ⟨rfl, rfl⟩
  go_wp2_with fail
  refine (refCanon_c b HL.out).mono ?_
  rintro e w2 ⟨rfl, rfl⟩
  go_wp2_with fail
  go_ret
  exact ⟨by first | rfl | (rw [HB.out]; rfl), hW.out⟩
end Go.Proofs.YtbniandbmabdbaaDoor

/- The reference's reader: the next value. -/
namespace Go.Proofs.YtbniandbmabdbaaDoor
open Go Go.RowKit
set_option linter.unusedSimpArgs false
set_option linter.unusedVariables false

def VPost (w : World) (R : Nat) (O : Option (Vl × ByteArray)) (e : Ending) (w' : World) : Prop :=
  ∃ v : Vl, e = .returned v.val ∧ (∀ p r, O = some (p, r) → v = p) ∧ RX w' R (leftX O) ∧ w.grownBy w' (some R)
theorem rr_below {w w1 : World} {R : Nat} {s : ByteArray} {b : Bool} (h : RR w R s b) (hb : Below w.heap.size w w1) : RR w1 R s b := by
  unfold RR at h ⊢
  rw [hb.block R (Array.getElem?_eq_some_iff.1 h).1]
  exact h
theorem rr_lt {w : World} {R : Nat} {s : ByteArray} {b : Bool} (h : RR w R s b) : R < w.heap.size := (Array.getElem?_eq_some_iff.1 h).1
theorem rx_lt {w : World} {R : Nat} {o : Option ByteArray} (h : RX w R o) : R < w.heap.size := by
  cases o with
  | none => obtain ⟨s, h⟩ := h; exact rr_lt h
  | some s => exact rr_lt h
theorem rx_below {w w1 : World} {R : Nat} {o : Option ByteArray} (h : RX w R o) (hb : Below w.heap.size w w1) : RX w1 R o := by
  cases o with
  | none => obtain ⟨s, h⟩ := h; exact ⟨s, rr_below h hb⟩
  | some s => exact rr_below h hb
theorem rx_other {w : World} {R n : Nat} {o : Option ByteArray} (h : RX w R o) (hn : R ≠ n) (j : Nat) (u : Value) : RX (w.setCell ⟨n, j, none⟩ u) R o := by
  cases o with
  | none => obtain ⟨s, h⟩ := h; exact ⟨s, (Below.heap_setCell w ⟨n, j, none⟩ u R hn).trans h⟩
  | some s => exact (Below.heap_setCell w ⟨n, j, none⟩ u R hn).trans h
theorem rx4 {w : World} {R n : Nat} {o : Option ByteArray} (hn : R < n) (h : RX w R o) (x y z u : Value) : RX (set4w w n x y z u) R o :=
  rx_other (rx_other (rx_other (rx_other h (by omega) 0 x) (by omega) 1 y) (by omega) 2 z) (by omega) 3 u
theorem rx_bad {w : World} {R : Nat} {o : Option ByteArray} (h : RX w R o) : ∃ (s : ByteArray) (b : Bool), RR w R s b := by
  cases o with
  | none => obtain ⟨s, h⟩ := h; exact ⟨s, true, h⟩
  | some s => exact ⟨s, false, h⟩
theorem left_map {X Y : Type} (f : X → Y) (y : Option (X × ByteArray)) : leftX (y.map fun q => (f q.1, q.2)) = leftX y := by cases y <;> rfl
theorem map_out {X Y : Type} {f : X → Y} {y : Option (X × ByteArray)} {d : X} : ∀ p r, (y.map fun q => (f q.1, q.2)) = some (p, r) → f (outX d y) = p := by
  intro p r h
  cases y with
  | none => cases h
  | some q => exact congrArg Prod.fst (Option.some.inj h)
theorem out_lt {k : Nat} {o : Option ByteArray} : outX 0 (o.bind (numP k)) < 256 ^ k := by
  cases hy : o.bind (numP k) with
  | none => exact Nat.pow_pos (by omega)
  | some q => obtain ⟨n, r⟩ := q; exact bind_num hy
theorem bind_val (o : Option ByteArray) : o.bind valP = (o.bind (takeP 1)).bind fun p => valQ p.1 p.2 := by cases o <;> rfl

set_option maxRecDepth 1000000 in
set_option maxHeartbeats 8000000 in
theorem xValue_c {w : World} {R : Nat} {o : Option ByteArray} (h : RX w R o) :
    Calls Tryd.prog 45 #[.pointer (some ⟨R, 0, none⟩)] w (VPost w R (o.bind valP)) := by
  have bA : Below w.heap.size w (w.alloc (.cells #[.int .i64 0, .int .i64 0, .string ByteArray.empty, .float .f64 0] 57)) := (Below.refl _ _).alloc (Nat.le_refl _) _
  have hT := xTake_c (rx_below h bA) 1 1 rfl
  have qs := store_float (P := Tryd.prog)
  have BA := Lib.hid bA
  have HG := Lib.hid (rx_lt h)
  rw [bind_val]
  have hnew : ∀ w1 : World, (w.alloc (.cells #[.int .i64 0, .int .i64 0, .string ByteArray.empty, .float .f64 0] 57)).grownBy w1 (some R) → w1.heap[w.heap.size]? = some (.cells #[.int .i64 0, .int .i64 0, .string ByteArray.empty, .float .f64 0] 57 (0, 0)) := fun w1 h1 => by
    rw [h1.block w.heap.size (by simp) (fun e => by injection e with e; have := HG.out; omega)]
    exact heap_alloc_new w _
  have HNW := Lib.hid hnew
  clear hnew h bA
  obtain ⟨y, hy⟩ : ∃ y, y = o.bind (takeP 1) := ⟨_, rfl⟩
  rw [← hy] at hT ⊢
  have HT := Lib.hid hT
  clear hy hT
  obtain ⟨x, hx⟩ : ∃ x, x = outX ByteArray.empty y := ⟨_, rfl⟩
  have hx2 := hx.symm
  have HX := Lib.hid hx
  clear hx
  by_cases c0 : x = ⟨#[116]⟩
  · obtain ⟨r, hyr⟩ : ∃ r, y = some (⟨#[116]⟩, r) := by
      cases y with
      | none => rw [HX.out] at c0; exact absurd (congrArg ByteArray.size c0) (by decide)
      | some q => obtain ⟨q1, r⟩ := q; rw [HX.out] at c0; exact ⟨r, by rw [← c0]; rfl⟩
    subst hyr
    rw [show ((some ((⟨#[116]⟩ : ByteArray), r) : Option (ByteArray × ByteArray)).bind fun p => valQ p.1 p.2) = (numP 1 r).map (fun q => ((⟨2, q.1, ByteArray.empty, 0⟩ : Vl), q.2)) from by show valQ ⟨#[116]⟩ r = _; unfold valQ; rw [if_pos rfl]]
    subst c0
    obtain ⟨y2, hy2⟩ : ∃ y2, y2 = numP 1 r := ⟨_, rfl⟩
    rw [← hy2]
    have HY := Lib.hid hy2
    clear HX hy2
    go_enter Tryd.func45, Tryd.ntmps45
    go_wp2_with fail
    refine (HT.out).mono ?_
    rintro e w1 ⟨rfl, r1, g1⟩
    have hN := xNumber_c (o := some r) r1 1 (by omega) 1 rfl
    have hlt := out_lt (k := 1) (o := some r)
    rw [show (some r).bind (numP 1) = numP 1 r from rfl] at hN hlt
    rw [← HY.out] at hN hlt
    obtain ⟨q, hq⟩ : ∃ q, q = outX 0 y2 := ⟨_, rfl⟩
    have hq2 := hq.symm
    have HQ := Lib.hid hq
    rw [← hq] at hlt
    have HLT := Lib.hid hlt
    have HN := Lib.hid hN
    have G1 := Lib.hid g1
    clear hN g1 r1 hq hlt
    have hw : IntKind.i64.wrap (q : Int) = (q : Int) := IntWalk.i64_in _ (by have := HLT.out; omega)
    go_wp2_with fail
    refine (HN.out).mono ?_
    rintro e w2 ⟨rfl, r2, g2⟩
    have R2 := Lib.hid r2
    have G2 := Lib.hid (G1.out.trans g2)
    clear r2 g2
    have HB := Lib.hid (HNW.out _ G2.out)
    have q0 : w2.cell? ⟨w.heap.size, 0, none⟩ = some (.int .i64 0) := by simp [World.cell?, HB.out]
    have q1 : w2.cell? ⟨w.heap.size, 1, none⟩ = some (.int .i64 0) := by simp [World.cell?, HB.out]
    have q2 : w2.cell? ⟨w.heap.size, 2, none⟩ = some (.string ByteArray.empty) := by simp [World.cell?, HB.out]
    have q3 : w2.cell? ⟨w.heap.size, 3, none⟩ = some (.float .f64 0) := by simp [World.cell?, HB.out]
    have f0 : w2.frozen? ⟨w.heap.size, 0, none⟩ = false := by simp [World.frozen?, HB.out]
    have f1 : w2.frozen? ⟨w.heap.size, 1, none⟩ = false := by simp [World.frozen?, HB.out]
    have f2 : w2.frozen? ⟨w.heap.size, 2, none⟩ = false := by simp [World.frozen?, HB.out]
    have f3 : w2.frozen? ⟨w.heap.size, 3, none⟩ = false := by simp [World.frozen?, HB.out]
    go_wp2_with fail
    refine value_end rfl rfl (cells4_at HB.out _ _ _ _) rfl ?_
    refine ⟨⟨2, q, ByteArray.empty, 0⟩, by first | rfl | (rw [HZ.out]; rfl), fun p r h => ?_, ?_, grown4 BA.out G2.out _ _ _ _⟩
    · rw [HQ.out]; exact map_out (d := 0) (f := fun q : Nat => (⟨2, q, ByteArray.empty, 0⟩ : Vl)) p r h
    · rw [left_map (fun q : Nat => (⟨2, q, ByteArray.empty, 0⟩ : Vl))]; exact rx4 HG.out R2.out _ _ _ _
  have b0 : (x.toList == [116]) = false := str_bne (l := [116]) c0
  by_cases c1 : x = ⟨#[98]⟩
  · obtain ⟨r, hyr⟩ : ∃ r, y = some (⟨#[98]⟩, r) := by
      cases y with
      | none => rw [HX.out] at c1; exact absurd (congrArg ByteArray.size c1) (by decide)
      | some q => obtain ⟨q1, r⟩ := q; rw [HX.out] at c1; exact ⟨r, by rw [← c1]; rfl⟩
    subst hyr
    rw [show ((some ((⟨#[98]⟩ : ByteArray), r) : Option (ByteArray × ByteArray)).bind fun p => valQ p.1 p.2) = (numP 1 r).map (fun q => ((⟨1, sgn 8 q.1, ByteArray.empty, 0⟩ : Vl), q.2)) from by show valQ ⟨#[98]⟩ r = _; unfold valQ; rw [if_neg (by decide), if_pos rfl]]
    subst c1
    obtain ⟨y2, hy2⟩ : ∃ y2, y2 = numP 1 r := ⟨_, rfl⟩
    rw [← hy2]
    have HY := Lib.hid hy2
    clear HX hy2 b0
    go_enter Tryd.func45, Tryd.ntmps45
    go_wp2_with fail
    refine (HT.out).mono ?_
    rintro e w1 ⟨rfl, r1, g1⟩
    have hN := xNumber_c (o := some r) r1 1 (by omega) 1 rfl
    have hlt := out_lt (k := 1) (o := some r)
    rw [show (some r).bind (numP 1) = numP 1 r from rfl] at hN hlt
    rw [← HY.out] at hN hlt
    obtain ⟨q, hq⟩ : ∃ q, q = outX 0 y2 := ⟨_, rfl⟩
    have hq2 := hq.symm
    have HQ := Lib.hid hq
    rw [← hq] at hlt
    have HLT := Lib.hid hlt
    have HN := Lib.hid hN
    have G1 := Lib.hid g1
    clear hN g1 r1 hq hlt
    go_wp2_with fail
    refine (HN.out).mono ?_
    rintro e w2 ⟨rfl, r2, g2⟩
    have R2 := Lib.hid r2
    have G2 := Lib.hid (G1.out.trans g2)
    clear r2 g2
    obtain ⟨z, hz⟩ : ∃ z, z = sgn 8 q := ⟨_, rfl⟩
    have HS := Lib.hid (signed8_c (w := w2) q (show q < 256 from HLT.out))
    rw [← hz] at HS
    have HZ := Lib.hid hz
    clear hz
    go_wp2_with fail
    refine (HS.out).mono ?_
    rintro e w3 ⟨rfl, rfl⟩
    have HB := Lib.hid (HNW.out _ G2.out)
    have q0 : w2.cell? ⟨w.heap.size, 0, none⟩ = some (.int .i64 0) := by simp [World.cell?, HB.out]
    have q1 : w2.cell? ⟨w.heap.size, 1, none⟩ = some (.int .i64 0) := by simp [World.cell?, HB.out]
    have q2 : w2.cell? ⟨w.heap.size, 2, none⟩ = some (.string ByteArray.empty) := by simp [World.cell?, HB.out]
    have q3 : w2.cell? ⟨w.heap.size, 3, none⟩ = some (.float .f64 0) := by simp [World.cell?, HB.out]
    have f0 : w2.frozen? ⟨w.heap.size, 0, none⟩ = false := by simp [World.frozen?, HB.out]
    have f1 : w2.frozen? ⟨w.heap.size, 1, none⟩ = false := by simp [World.frozen?, HB.out]
    have f2 : w2.frozen? ⟨w.heap.size, 2, none⟩ = false := by simp [World.frozen?, HB.out]
    have f3 : w2.frozen? ⟨w.heap.size, 3, none⟩ = false := by simp [World.frozen?, HB.out]
    go_wp2_with fail
    refine value_end rfl rfl (cells4_at HB.out _ _ _ _) rfl ?_
    refine ⟨⟨1, sgn 8 q, ByteArray.empty, 0⟩, by first | rfl | (rw [HZ.out]; rfl), fun p r h => ?_, ?_, grown4 BA.out G2.out _ _ _ _⟩
    · rw [HQ.out]; exact map_out (d := 0) (f := fun q : Nat => (⟨1, sgn 8 q, ByteArray.empty, 0⟩ : Vl)) p r h
    · rw [left_map (fun q : Nat => (⟨1, sgn 8 q, ByteArray.empty, 0⟩ : Vl))]; exact rx4 HG.out R2.out _ _ _ _
  have b1 : (x.toList == [98]) = false := str_bne (l := [98]) c1
  by_cases c2 : x = ⟨#[115]⟩
  · obtain ⟨r, hyr⟩ : ∃ r, y = some (⟨#[115]⟩, r) := by
      cases y with
      | none => rw [HX.out] at c2; exact absurd (congrArg ByteArray.size c2) (by decide)
      | some q => obtain ⟨q1, r⟩ := q; rw [HX.out] at c2; exact ⟨r, by rw [← c2]; rfl⟩
    subst hyr
    rw [show ((some ((⟨#[115]⟩ : ByteArray), r) : Option (ByteArray × ByteArray)).bind fun p => valQ p.1 p.2) = (numP 2 r).map (fun q => ((⟨1, sgn 16 q.1, ByteArray.empty, 0⟩ : Vl), q.2)) from by show valQ ⟨#[115]⟩ r = _; unfold valQ; rw [if_neg (by decide), if_neg (by decide), if_pos rfl]]
    subst c2
    obtain ⟨y2, hy2⟩ : ∃ y2, y2 = numP 2 r := ⟨_, rfl⟩
    rw [← hy2]
    have HY := Lib.hid hy2
    clear HX hy2 b0 b1
    go_enter Tryd.func45, Tryd.ntmps45
    go_wp2_with fail
    refine (HT.out).mono ?_
    rintro e w1 ⟨rfl, r1, g1⟩
    have hN := xNumber_c (o := some r) r1 2 (by omega) 2 rfl
    have hlt := out_lt (k := 2) (o := some r)
    rw [show (some r).bind (numP 2) = numP 2 r from rfl] at hN hlt
    rw [← HY.out] at hN hlt
    obtain ⟨q, hq⟩ : ∃ q, q = outX 0 y2 := ⟨_, rfl⟩
    have hq2 := hq.symm
    have HQ := Lib.hid hq
    rw [← hq] at hlt
    have HLT := Lib.hid hlt
    have HN := Lib.hid hN
    have G1 := Lib.hid g1
    clear hN g1 r1 hq hlt
    go_wp2_with fail
    refine (HN.out).mono ?_
    rintro e w2 ⟨rfl, r2, g2⟩
    have R2 := Lib.hid r2
    have G2 := Lib.hid (G1.out.trans g2)
    clear r2 g2
    obtain ⟨z, hz⟩ : ∃ z, z = sgn 16 q := ⟨_, rfl⟩
    have HS := Lib.hid (signed16_c (w := w2) q (show q < 65536 from HLT.out))
    rw [← hz] at HS
    have HZ := Lib.hid hz
    clear hz
    go_wp2_with fail
    refine (HS.out).mono ?_
    rintro e w3 ⟨rfl, rfl⟩
    have HB := Lib.hid (HNW.out _ G2.out)
    have q0 : w2.cell? ⟨w.heap.size, 0, none⟩ = some (.int .i64 0) := by simp [World.cell?, HB.out]
    have q1 : w2.cell? ⟨w.heap.size, 1, none⟩ = some (.int .i64 0) := by simp [World.cell?, HB.out]
    have q2 : w2.cell? ⟨w.heap.size, 2, none⟩ = some (.string ByteArray.empty) := by simp [World.cell?, HB.out]
    have q3 : w2.cell? ⟨w.heap.size, 3, none⟩ = some (.float .f64 0) := by simp [World.cell?, HB.out]
    have f0 : w2.frozen? ⟨w.heap.size, 0, none⟩ = false := by simp [World.frozen?, HB.out]
    have f1 : w2.frozen? ⟨w.heap.size, 1, none⟩ = false := by simp [World.frozen?, HB.out]
    have f2 : w2.frozen? ⟨w.heap.size, 2, none⟩ = false := by simp [World.frozen?, HB.out]
    have f3 : w2.frozen? ⟨w.heap.size, 3, none⟩ = false := by simp [World.frozen?, HB.out]
    go_wp2_with fail
    refine value_end rfl rfl (cells4_at HB.out _ _ _ _) rfl ?_
    refine ⟨⟨1, sgn 16 q, ByteArray.empty, 0⟩, by first | rfl | (rw [HZ.out]; rfl), fun p r h => ?_, ?_, grown4 BA.out G2.out _ _ _ _⟩
    · rw [HQ.out]; exact map_out (d := 0) (f := fun q : Nat => (⟨1, sgn 16 q, ByteArray.empty, 0⟩ : Vl)) p r h
    · rw [left_map (fun q : Nat => (⟨1, sgn 16 q, ByteArray.empty, 0⟩ : Vl))]; exact rx4 HG.out R2.out _ _ _ _
  have b2 : (x.toList == [115]) = false := str_bne (l := [115]) c2
  by_cases c3 : x = ⟨#[73]⟩
  · obtain ⟨r, hyr⟩ : ∃ r, y = some (⟨#[73]⟩, r) := by
      cases y with
      | none => rw [HX.out] at c3; exact absurd (congrArg ByteArray.size c3) (by decide)
      | some q => obtain ⟨q1, r⟩ := q; rw [HX.out] at c3; exact ⟨r, by rw [← c3]; rfl⟩
    subst hyr
    rw [show ((some ((⟨#[73]⟩ : ByteArray), r) : Option (ByteArray × ByteArray)).bind fun p => valQ p.1 p.2) = (numP 4 r).map (fun q => ((⟨1, sgn 32 q.1, ByteArray.empty, 0⟩ : Vl), q.2)) from by show valQ ⟨#[73]⟩ r = _; unfold valQ; rw [if_neg (by decide), if_neg (by decide), if_neg (by decide), if_pos rfl]]
    subst c3
    obtain ⟨y2, hy2⟩ : ∃ y2, y2 = numP 4 r := ⟨_, rfl⟩
    rw [← hy2]
    have HY := Lib.hid hy2
    clear HX hy2 b0 b1 b2
    go_enter Tryd.func45, Tryd.ntmps45
    go_wp2_with fail
    refine (HT.out).mono ?_
    rintro e w1 ⟨rfl, r1, g1⟩
    have hN := xNumber_c (o := some r) r1 4 (by omega) 4 rfl
    have hlt := out_lt (k := 4) (o := some r)
    rw [show (some r).bind (numP 4) = numP 4 r from rfl] at hN hlt
    rw [← HY.out] at hN hlt
    obtain ⟨q, hq⟩ : ∃ q, q = outX 0 y2 := ⟨_, rfl⟩
    have hq2 := hq.symm
    have HQ := Lib.hid hq
    rw [← hq] at hlt
    have HLT := Lib.hid hlt
    have HN := Lib.hid hN
    have G1 := Lib.hid g1
    clear hN g1 r1 hq hlt
    go_wp2_with fail
    refine (HN.out).mono ?_
    rintro e w2 ⟨rfl, r2, g2⟩
    have R2 := Lib.hid r2
    have G2 := Lib.hid (G1.out.trans g2)
    clear r2 g2
    obtain ⟨z, hz⟩ : ∃ z, z = sgn 32 q := ⟨_, rfl⟩
    have HS := Lib.hid (signed32_c (w := w2) q (show q < 4294967296 from HLT.out))
    rw [← hz] at HS
    have HZ := Lib.hid hz
    clear hz
    go_wp2_with fail
    refine (HS.out).mono ?_
    rintro e w3 ⟨rfl, rfl⟩
    have HB := Lib.hid (HNW.out _ G2.out)
    have q0 : w2.cell? ⟨w.heap.size, 0, none⟩ = some (.int .i64 0) := by simp [World.cell?, HB.out]
    have q1 : w2.cell? ⟨w.heap.size, 1, none⟩ = some (.int .i64 0) := by simp [World.cell?, HB.out]
    have q2 : w2.cell? ⟨w.heap.size, 2, none⟩ = some (.string ByteArray.empty) := by simp [World.cell?, HB.out]
    have q3 : w2.cell? ⟨w.heap.size, 3, none⟩ = some (.float .f64 0) := by simp [World.cell?, HB.out]
    have f0 : w2.frozen? ⟨w.heap.size, 0, none⟩ = false := by simp [World.frozen?, HB.out]
    have f1 : w2.frozen? ⟨w.heap.size, 1, none⟩ = false := by simp [World.frozen?, HB.out]
    have f2 : w2.frozen? ⟨w.heap.size, 2, none⟩ = false := by simp [World.frozen?, HB.out]
    have f3 : w2.frozen? ⟨w.heap.size, 3, none⟩ = false := by simp [World.frozen?, HB.out]
    go_wp2_with fail
    refine value_end rfl rfl (cells4_at HB.out _ _ _ _) rfl ?_
    refine ⟨⟨1, sgn 32 q, ByteArray.empty, 0⟩, by first | rfl | (rw [HZ.out]; rfl), fun p r h => ?_, ?_, grown4 BA.out G2.out _ _ _ _⟩
    · rw [HQ.out]; exact map_out (d := 0) (f := fun q : Nat => (⟨1, sgn 32 q, ByteArray.empty, 0⟩ : Vl)) p r h
    · rw [left_map (fun q : Nat => (⟨1, sgn 32 q, ByteArray.empty, 0⟩ : Vl))]; exact rx4 HG.out R2.out _ _ _ _
  have b3 : (x.toList == [73]) = false := str_bne (l := [73]) c3
  by_cases c4 : x = ⟨#[108]⟩
  · obtain ⟨r, hyr⟩ : ∃ r, y = some (⟨#[108]⟩, r) := by
      cases y with
      | none => rw [HX.out] at c4; exact absurd (congrArg ByteArray.size c4) (by decide)
      | some q => obtain ⟨q1, r⟩ := q; rw [HX.out] at c4; exact ⟨r, by rw [← c4]; rfl⟩
    subst hyr
    rw [show ((some ((⟨#[108]⟩ : ByteArray), r) : Option (ByteArray × ByteArray)).bind fun p => valQ p.1 p.2) = (numP 8 r).map (fun q => ((⟨1, sgn 64 q.1, ByteArray.empty, 0⟩ : Vl), q.2)) from by show valQ ⟨#[108]⟩ r = _; unfold valQ; rw [if_neg (by decide), if_neg (by decide), if_neg (by decide), if_neg (by decide), if_pos rfl]]
    subst c4
    obtain ⟨y2, hy2⟩ : ∃ y2, y2 = numP 8 r := ⟨_, rfl⟩
    rw [← hy2]
    have HY := Lib.hid hy2
    clear HX hy2 b0 b1 b2 b3
    go_enter Tryd.func45, Tryd.ntmps45
    go_wp2_with fail
    refine (HT.out).mono ?_
    rintro e w1 ⟨rfl, r1, g1⟩
    have hN := xNumber_c (o := some r) r1 8 (by omega) 8 rfl
    have hlt := out_lt (k := 8) (o := some r)
    rw [show (some r).bind (numP 8) = numP 8 r from rfl] at hN hlt
    rw [← HY.out] at hN hlt
    obtain ⟨q, hq⟩ : ∃ q, q = outX 0 y2 := ⟨_, rfl⟩
    have hq2 := hq.symm
    have HQ := Lib.hid hq
    rw [← hq] at hlt
    have HLT := Lib.hid hlt
    have HN := Lib.hid hN
    have G1 := Lib.hid g1
    clear hN g1 r1 hq hlt
    go_wp2_with fail
    refine (HN.out).mono ?_
    rintro e w2 ⟨rfl, r2, g2⟩
    have R2 := Lib.hid r2
    have G2 := Lib.hid (G1.out.trans g2)
    clear r2 g2
    obtain ⟨z, hz⟩ : ∃ z, z = sgn 64 q := ⟨_, rfl⟩
    have HS := Lib.hid (signed64_c (w := w2) q (show q < 18446744073709551616 from HLT.out))
    rw [← hz] at HS
    have HZ := Lib.hid hz
    clear hz
    go_wp2_with fail
    refine (HS.out).mono ?_
    rintro e w3 ⟨rfl, rfl⟩
    have HB := Lib.hid (HNW.out _ G2.out)
    have q0 : w2.cell? ⟨w.heap.size, 0, none⟩ = some (.int .i64 0) := by simp [World.cell?, HB.out]
    have q1 : w2.cell? ⟨w.heap.size, 1, none⟩ = some (.int .i64 0) := by simp [World.cell?, HB.out]
    have q2 : w2.cell? ⟨w.heap.size, 2, none⟩ = some (.string ByteArray.empty) := by simp [World.cell?, HB.out]
    have q3 : w2.cell? ⟨w.heap.size, 3, none⟩ = some (.float .f64 0) := by simp [World.cell?, HB.out]
    have f0 : w2.frozen? ⟨w.heap.size, 0, none⟩ = false := by simp [World.frozen?, HB.out]
    have f1 : w2.frozen? ⟨w.heap.size, 1, none⟩ = false := by simp [World.frozen?, HB.out]
    have f2 : w2.frozen? ⟨w.heap.size, 2, none⟩ = false := by simp [World.frozen?, HB.out]
    have f3 : w2.frozen? ⟨w.heap.size, 3, none⟩ = false := by simp [World.frozen?, HB.out]
    go_wp2_with fail
    refine value_end rfl rfl (cells4_at HB.out _ _ _ _) rfl ?_
    refine ⟨⟨1, sgn 64 q, ByteArray.empty, 0⟩, by first | rfl | (rw [HZ.out]; rfl), fun p r h => ?_, ?_, grown4 BA.out G2.out _ _ _ _⟩
    · rw [HQ.out]; exact map_out (d := 0) (f := fun q : Nat => (⟨1, sgn 64 q, ByteArray.empty, 0⟩ : Vl)) p r h
    · rw [left_map (fun q : Nat => (⟨1, sgn 64 q, ByteArray.empty, 0⟩ : Vl))]; exact rx4 HG.out R2.out _ _ _ _
  have b4 : (x.toList == [108]) = false := str_bne (l := [108]) c4
  by_cases c5 : x = ⟨#[102]⟩
  · obtain ⟨r, hyr⟩ : ∃ r, y = some (⟨#[102]⟩, r) := by
      cases y with
      | none => rw [HX.out] at c5; exact absurd (congrArg ByteArray.size c5) (by decide)
      | some q => obtain ⟨q1, r⟩ := q; rw [HX.out] at c5; exact ⟨r, by rw [← c5]; rfl⟩
    subst hyr
    rw [show ((some ((⟨#[102]⟩ : ByteArray), r) : Option (ByteArray × ByteArray)).bind fun p => valQ p.1 p.2) = (numP 4 r).map (fun q => ((⟨4, 0, ByteArray.empty, widR q.1⟩ : Vl), q.2)) from by show valQ ⟨#[102]⟩ r = _; unfold valQ; rw [if_neg (by decide), if_neg (by decide), if_neg (by decide), if_neg (by decide), if_neg (by decide), if_pos rfl]]
    subst c5
    obtain ⟨y2, hy2⟩ : ∃ y2, y2 = numP 4 r := ⟨_, rfl⟩
    rw [← hy2]
    have HY := Lib.hid hy2
    clear HX hy2 b0 b1 b2 b3 b4
    go_enter Tryd.func45, Tryd.ntmps45
    go_wp2_with fail
    refine (HT.out).mono ?_
    rintro e w1 ⟨rfl, r1, g1⟩
    have hN := xNumber_c (o := some r) r1 4 (by omega) 4 rfl
    have hlt := out_lt (k := 4) (o := some r)
    rw [show (some r).bind (numP 4) = numP 4 r from rfl] at hN hlt
    rw [← HY.out] at hN hlt
    obtain ⟨q, hq⟩ : ∃ q, q = outX 0 y2 := ⟨_, rfl⟩
    have hq2 := hq.symm
    have HQ := Lib.hid hq
    rw [← hq] at hlt
    have HLT := Lib.hid hlt
    have HN := Lib.hid hN
    have G1 := Lib.hid g1
    clear hN g1 r1 hq hlt
    have hw : IntKind.u32.wrap (q : Int) = (q : Int) := IntWalk.u32_in _ (by have := HLT.out; omega)
    go_wp2_with fail
    refine (HN.out).mono ?_
    rintro e w2 ⟨rfl, r2, g2⟩
    have R2 := Lib.hid r2
    have G2 := Lib.hid (G1.out.trans g2)
    clear r2 g2
    go_wp2_with fail
    refine (refWiden_c q _ (by first | rfl | exact hw)).mono ?_
    rintro e w3 ⟨rfl, b3⟩
    replace R2 := Lib.hid (rx_below R2.out b3)
    replace G2 := Lib.hid (G2.out.trans (grownBy_below b3 _))
    clear b3
    have HB := Lib.hid (HNW.out _ G2.out)
    have q0 : w3.cell? ⟨w.heap.size, 0, none⟩ = some (.int .i64 0) := by simp [World.cell?, HB.out]
    have q1 : w3.cell? ⟨w.heap.size, 1, none⟩ = some (.int .i64 0) := by simp [World.cell?, HB.out]
    have q2 : w3.cell? ⟨w.heap.size, 2, none⟩ = some (.string ByteArray.empty) := by simp [World.cell?, HB.out]
    have q3 : w3.cell? ⟨w.heap.size, 3, none⟩ = some (.float .f64 0) := by simp [World.cell?, HB.out]
    have f0 : w3.frozen? ⟨w.heap.size, 0, none⟩ = false := by simp [World.frozen?, HB.out]
    have f1 : w3.frozen? ⟨w.heap.size, 1, none⟩ = false := by simp [World.frozen?, HB.out]
    have f2 : w3.frozen? ⟨w.heap.size, 2, none⟩ = false := by simp [World.frozen?, HB.out]
    have f3 : w3.frozen? ⟨w.heap.size, 3, none⟩ = false := by simp [World.frozen?, HB.out]
    go_wp2_with fail
    refine value_end rfl rfl (cells4_at HB.out _ _ _ _) rfl ?_
    refine ⟨⟨4, 0, ByteArray.empty, widR q⟩, by first | rfl | (rw [HZ.out]; rfl), fun p r h => ?_, ?_, grown4 BA.out G2.out _ _ _ _⟩
    · rw [HQ.out]; exact map_out (d := 0) (f := fun q : Nat => (⟨4, 0, ByteArray.empty, widR q⟩ : Vl)) p r h
    · rw [left_map (fun q : Nat => (⟨4, 0, ByteArray.empty, widR q⟩ : Vl))]; exact rx4 HG.out R2.out _ _ _ _
  have b5 : (x.toList == [102]) = false := str_bne (l := [102]) c5
  by_cases c6 : x = ⟨#[100]⟩
  · obtain ⟨r, hyr⟩ : ∃ r, y = some (⟨#[100]⟩, r) := by
      cases y with
      | none => rw [HX.out] at c6; exact absurd (congrArg ByteArray.size c6) (by decide)
      | some q => obtain ⟨q1, r⟩ := q; rw [HX.out] at c6; exact ⟨r, by rw [← c6]; rfl⟩
    subst hyr
    rw [show ((some ((⟨#[100]⟩ : ByteArray), r) : Option (ByteArray × ByteArray)).bind fun p => valQ p.1 p.2) = (numP 8 r).map (fun q => ((⟨4, 0, ByteArray.empty, canonR q.1⟩ : Vl), q.2)) from by show valQ ⟨#[100]⟩ r = _; unfold valQ; rw [if_neg (by decide), if_neg (by decide), if_neg (by decide), if_neg (by decide), if_neg (by decide), if_neg (by decide), if_pos rfl]]
    subst c6
    obtain ⟨y2, hy2⟩ : ∃ y2, y2 = numP 8 r := ⟨_, rfl⟩
    rw [← hy2]
    have HY := Lib.hid hy2
    clear HX hy2 b0 b1 b2 b3 b4 b5
    go_enter Tryd.func45, Tryd.ntmps45
    go_wp2_with fail
    refine (HT.out).mono ?_
    rintro e w1 ⟨rfl, r1, g1⟩
    have hN := xNumber_c (o := some r) r1 8 (by omega) 8 rfl
    have hlt := out_lt (k := 8) (o := some r)
    rw [show (some r).bind (numP 8) = numP 8 r from rfl] at hN hlt
    rw [← HY.out] at hN hlt
    obtain ⟨q, hq⟩ : ∃ q, q = outX 0 y2 := ⟨_, rfl⟩
    have hq2 := hq.symm
    have HQ := Lib.hid hq
    rw [← hq] at hlt
    have HLT := Lib.hid hlt
    have HN := Lib.hid hN
    have G1 := Lib.hid g1
    clear hN g1 r1 hq hlt
    go_wp2_with fail
    refine (HN.out).mono ?_
    rintro e w2 ⟨rfl, r2, g2⟩
    have R2 := Lib.hid r2
    have G2 := Lib.hid (G1.out.trans g2)
    clear r2 g2
    go_wp2_with fail
    refine (from_c q).mono ?_
    rintro e w3 ⟨rfl, rfl⟩
    go_wp2_with fail
    refine (refCanon_c q HLT.out).mono ?_
    rintro e w3 ⟨rfl, rfl⟩
    have HB := Lib.hid (HNW.out _ G2.out)
    have q0 : w2.cell? ⟨w.heap.size, 0, none⟩ = some (.int .i64 0) := by simp [World.cell?, HB.out]
    have q1 : w2.cell? ⟨w.heap.size, 1, none⟩ = some (.int .i64 0) := by simp [World.cell?, HB.out]
    have q2 : w2.cell? ⟨w.heap.size, 2, none⟩ = some (.string ByteArray.empty) := by simp [World.cell?, HB.out]
    have q3 : w2.cell? ⟨w.heap.size, 3, none⟩ = some (.float .f64 0) := by simp [World.cell?, HB.out]
    have f0 : w2.frozen? ⟨w.heap.size, 0, none⟩ = false := by simp [World.frozen?, HB.out]
    have f1 : w2.frozen? ⟨w.heap.size, 1, none⟩ = false := by simp [World.frozen?, HB.out]
    have f2 : w2.frozen? ⟨w.heap.size, 2, none⟩ = false := by simp [World.frozen?, HB.out]
    have f3 : w2.frozen? ⟨w.heap.size, 3, none⟩ = false := by simp [World.frozen?, HB.out]
    go_wp2_with fail
    refine value_end rfl rfl (cells4_at HB.out _ _ _ _) rfl ?_
    refine ⟨⟨4, 0, ByteArray.empty, canonR q⟩, by first | rfl | (rw [HZ.out]; rfl), fun p r h => ?_, ?_, grown4 BA.out G2.out _ _ _ _⟩
    · rw [HQ.out]; exact map_out (d := 0) (f := fun q : Nat => (⟨4, 0, ByteArray.empty, canonR q⟩ : Vl)) p r h
    · rw [left_map (fun q : Nat => (⟨4, 0, ByteArray.empty, canonR q⟩ : Vl))]; exact rx4 HG.out R2.out _ _ _ _
  have b6 : (x.toList == [100]) = false := str_bne (l := [100]) c6
  by_cases c7 : x = ⟨#[83]⟩
  · obtain ⟨r, hyr⟩ : ∃ r, y = some (⟨#[83]⟩, r) := by
      cases y with
      | none => rw [HX.out] at c7; exact absurd (congrArg ByteArray.size c7) (by decide)
      | some q => obtain ⟨q1, r⟩ := q; rw [HX.out] at c7; exact ⟨r, by rw [← c7]; rfl⟩
    subst hyr
    rw [show ((some ((⟨#[83]⟩ : ByteArray), r) : Option (ByteArray × ByteArray)).bind fun p => valQ p.1 p.2) = (longP r).map (fun q => ((⟨3, 0, q.1, 0⟩ : Vl), q.2)) from by show valQ ⟨#[83]⟩ r = _; unfold valQ; rw [if_neg (by decide), if_neg (by decide), if_neg (by decide), if_neg (by decide), if_neg (by decide), if_neg (by decide), if_neg (by decide), if_pos rfl]]
    subst c7
    obtain ⟨y2, hy2⟩ : ∃ y2, y2 = longP r := ⟨_, rfl⟩
    rw [← hy2]
    have HY := Lib.hid hy2
    clear HX hy2 b0 b1 b2 b3 b4 b5 b6
    go_enter Tryd.func45, Tryd.ntmps45
    go_wp2_with fail
    refine (HT.out).mono ?_
    rintro e w1 ⟨rfl, r1, g1⟩
    have hN := xLong_c (o := some r) r1
    rw [show (some r).bind (longP) = longP r from rfl] at hN
    rw [← HY.out] at hN
    obtain ⟨q, hq⟩ : ∃ q, q = outX ByteArray.empty y2 := ⟨_, rfl⟩
    have hq2 := hq.symm
    have HQ := Lib.hid hq
    have HN := Lib.hid hN
    have G1 := Lib.hid g1
    clear hN g1 r1 hq
    go_wp2_with fail
    refine (HN.out).mono ?_
    rintro e w2 ⟨rfl, r2, g2⟩
    have R2 := Lib.hid r2
    have G2 := Lib.hid (G1.out.trans g2)
    clear r2 g2
    have HB := Lib.hid (HNW.out _ G2.out)
    have q0 : w2.cell? ⟨w.heap.size, 0, none⟩ = some (.int .i64 0) := by simp [World.cell?, HB.out]
    have q1 : w2.cell? ⟨w.heap.size, 1, none⟩ = some (.int .i64 0) := by simp [World.cell?, HB.out]
    have q2 : w2.cell? ⟨w.heap.size, 2, none⟩ = some (.string ByteArray.empty) := by simp [World.cell?, HB.out]
    have q3 : w2.cell? ⟨w.heap.size, 3, none⟩ = some (.float .f64 0) := by simp [World.cell?, HB.out]
    have f0 : w2.frozen? ⟨w.heap.size, 0, none⟩ = false := by simp [World.frozen?, HB.out]
    have f1 : w2.frozen? ⟨w.heap.size, 1, none⟩ = false := by simp [World.frozen?, HB.out]
    have f2 : w2.frozen? ⟨w.heap.size, 2, none⟩ = false := by simp [World.frozen?, HB.out]
    have f3 : w2.frozen? ⟨w.heap.size, 3, none⟩ = false := by simp [World.frozen?, HB.out]
    go_wp2_with fail
    refine value_end rfl rfl (cells4_at HB.out _ _ _ _) rfl ?_
    refine ⟨⟨3, 0, q, 0⟩, by first | rfl | (rw [HZ.out]; rfl), fun p r h => ?_, ?_, grown4 BA.out G2.out _ _ _ _⟩
    · rw [HQ.out]; exact map_out (d := ByteArray.empty) (f := fun q : ByteArray => (⟨3, 0, q, 0⟩ : Vl)) p r h
    · rw [left_map (fun q : ByteArray => (⟨3, 0, q, 0⟩ : Vl))]; exact rx4 HG.out R2.out _ _ _ _
  have b7 : (x.toList == [83]) = false := str_bne (l := [83]) c7
  have hQ : (y.bind fun p => valQ p.1 p.2) = none := by
    cases y with
    | none => rfl
    | some q =>
      obtain ⟨q1, r⟩ := q
      have e : x = q1 := HX.out
      subst e
      show valQ _ r = none
      unfold valQ
      rw [if_neg c0, if_neg c1, if_neg c2, if_neg c3, if_neg c4, if_neg c5, if_neg c6, if_neg c7]
  rw [hQ]
  clear hQ HX c0 c1 c2 c3 c4 c5 c6 c7
  go_enter Tryd.func45, Tryd.ntmps45
  go_wp2_with fail
  refine (HT.out).mono ?_
  rintro e w1 ⟨rfl, r1, g1⟩
  obtain ⟨s1, bb, r2⟩ := rx_bad r1
  obtain ⟨m0, m1, n0, n1⟩ := rr_facts r2
  have R2 := Lib.hid r2
  have G1 := Lib.hid g1
  clear r1 g1 r2
  have HB0 := HNW.out _ G1.out
  have HB := Lib.hid ((Below.heap_setCell w1 ⟨R, 1, none⟩ (.bool true) w.heap.size (by have := HG.out; show w.heap.size ≠ R; omega)).trans HB0)
  clear HB0
  have q0 : (w1.setCell ⟨R, 1, none⟩ (.bool true)).cell? ⟨w.heap.size, 0, none⟩ = some (.int .i64 0) := by simp [World.cell?, HB.out]
  have q1 : (w1.setCell ⟨R, 1, none⟩ (.bool true)).cell? ⟨w.heap.size, 1, none⟩ = some (.int .i64 0) := by simp [World.cell?, HB.out]
  have q2 : (w1.setCell ⟨R, 1, none⟩ (.bool true)).cell? ⟨w.heap.size, 2, none⟩ = some (.string ByteArray.empty) := by simp [World.cell?, HB.out]
  have q3 : (w1.setCell ⟨R, 1, none⟩ (.bool true)).cell? ⟨w.heap.size, 3, none⟩ = some (.float .f64 0) := by simp [World.cell?, HB.out]
  have f0 : (w1.setCell ⟨R, 1, none⟩ (.bool true)).frozen? ⟨w.heap.size, 0, none⟩ = false := by simp [World.frozen?, HB.out]
  have f1 : (w1.setCell ⟨R, 1, none⟩ (.bool true)).frozen? ⟨w.heap.size, 1, none⟩ = false := by simp [World.frozen?, HB.out]
  have f2 : (w1.setCell ⟨R, 1, none⟩ (.bool true)).frozen? ⟨w.heap.size, 2, none⟩ = false := by simp [World.frozen?, HB.out]
  have f3 : (w1.setCell ⟨R, 1, none⟩ (.bool true)).frozen? ⟨w.heap.size, 3, none⟩ = false := by simp [World.frozen?, HB.out]
  go_wp2_with fail
  refine value_end rfl rfl (cells4_at HB.out _ _ _ _) rfl ?_
  refine ⟨⟨0, 0, ByteArray.empty, 0⟩, rfl, (fun p r h => by cases h), rx4 HG.out (o := none) ⟨s1, rr_set1 R2.out true⟩ _ _ _ _, grown4 BA.out (G1.out.trans (grownBy_set _ R 1 _)) _ _ _ _⟩
end Go.Proofs.YtbniandbmabdbaaDoor

/- The reference's ReadHead, plain law: what is left behind the four numbers. -/
namespace Go.Proofs.YtbniandbmabdbaaDoor
open Go Go.RowKit
set_option linter.unusedSimpArgs false
set_option linter.unusedVariables false

theorem left_some {X : Type} (x : X) (r : ByteArray) : leftX (some (x, r)) = some r := rfl
theorem left_no {X : Type} : leftX (none : Option (X × ByteArray)) = none := rfl
def num4 (s : ByteArray) : Option ByteArray := leftX ((leftX ((leftX ((leftX ((some s).bind (numP 2))).bind (numP 2))).bind (numP 8))).bind (numP 2))
theorem num4_yes {s : ByteArray} (h : 14 ≤ s.size) : num4 s = some (s.extract 14 s.size) := by
  unfold num4
  rw [Option.bind_some, numP_at0 s 2 (by omega)]
  rw [left_some, Option.bind_some]
  rw [numP_at s 2 2 (by omega)]
  rw [left_some, Option.bind_some]
  rw [numP_at s 4 8 (by omega)]
  rw [left_some, Option.bind_some]
  rw [numP_at s 12 2 (by omega), left_some]
theorem num4_no {s : ByteArray} (h : s.size < 14) : num4 s = none := by
  unfold num4
  rw [Option.bind_some]
  by_cases h2 : 2 ≤ s.size
  · rw [numP_at0 s 2 h2]
    rw [left_some, Option.bind_some]
    by_cases h4 : 4 ≤ s.size
    · rw [numP_at s 2 2 (by omega)]
      rw [left_some, Option.bind_some]
      by_cases h12 : 12 ≤ s.size
      · rw [numP_at s 4 8 (by omega)]
        rw [left_some, Option.bind_some]
        rw [numP_few s 12 2 (by omega) (by omega), left_no]
      · rw [numP_few s 4 8 (by omega) (by omega), left_no, Option.bind_none, left_no]
    · rw [numP_few s 2 2 (by omega) (by omega), left_no, Option.bind_none, left_no, Option.bind_none, left_no]
  · have e : numP 2 s = none := by unfold numP takeP; rw [if_neg h2]; rfl
    rw [e, left_no, Option.bind_none, left_no, Option.bind_none, left_no, Option.bind_none, left_no]
end Go.Proofs.YtbniandbmabdbaaDoor

/- The reference's table, plain laws: insertion one by one. -/
namespace Go.Proofs.YtbniandbmabdbaaDoor
open Go Go.RowKit
set_option linter.unusedSimpArgs false
set_option linter.unusedVariables false

def LtP (a b : Prp) : Prop := a.nm.data.toList < b.nm.data.toList
theorem ltP_irr (a : Prp) : ¬ LtP a a := List.lt_irrefl _
theorem ltP_trans {a b c : Prp} (h : LtP a b) (k : LtP b c) : LtP a c := List.lt_trans h k
/-- Two ascending lists of the same items are one. -/
theorem asc_uniq : ∀ (l m : List Prp), l.Pairwise LtP → m.Pairwise LtP → l.Perm m → l = m
  | [], m, _, _, h => (List.nil_perm.1 h).symm
  | a :: l, [], _, _, h => by have := h.length_eq; simp at this
  | a :: l, b :: m, hl, hm, h => by
    rw [List.pairwise_cons] at hl hm
    have ha : a ∈ b :: m := h.mem_iff.1 (List.mem_cons_self ..)
    have hb : b ∈ a :: l := h.mem_iff.2 (List.mem_cons_self ..)
    have e : a = b := by
      rcases List.mem_cons.1 ha with e | ha
      · exact e
      · rcases List.mem_cons.1 hb with e | hb
        · exact e.symm
        · exact absurd (ltP_trans (hl.1 b hb) (hm.1 a ha)) (ltP_irr a)
    subst e
    rw [asc_uniq l m hl.2 hm.2 ((List.perm_cons a).1 h)]
/-- One more, at its place. -/
def insP (p : Prp) : List Prp → List Prp
  | [] => [p]
  | x :: r => if Go.Op.bytesLess p.nm.toList x.nm.toList = true then p :: x :: r else x :: insP p r
theorem insP_perm (p : Prp) : ∀ l, (insP p l).Perm (p :: l)
  | [] => List.Perm.refl _
  | x :: r => by
    unfold insP
    split
    · exact List.Perm.refl _
    · exact ((insP_perm p r).cons x).trans (List.Perm.swap p x r)
theorem lt_total {a b : ByteArray} (h : ¬ a.data.toList < b.data.toList) (hn : a ≠ b) : b.data.toList < a.data.toList := by
  rcases Decidable.em (b.data.toList < a.data.toList) with k | k
  · exact k
  · exact absurd (ba_ext (List.le_antisymm (List.not_lt.1 k) (List.not_lt.1 h))) hn
theorem insP_asc (p : Prp) : ∀ l, l.Pairwise LtP → (∀ x ∈ l, x.nm ≠ p.nm) → (insP p l).Pairwise LtP
  | [], _, _ => by simp [insP]
  | x :: r, h, hd => by
    rw [List.pairwise_cons] at h
    unfold insP
    split
    · rename_i hl
      rw [less_iff] at hl
      rw [List.pairwise_cons]
      refine ⟨fun y hy => ?_, List.pairwise_cons.2 h⟩
      rcases List.mem_cons.1 hy with rfl | hy
      · exact hl
      · exact ltP_trans hl (h.1 y hy)
    · rename_i hl
      rw [less_iff] at hl
      rw [List.pairwise_cons]
      refine ⟨fun y hy => ?_, insP_asc p r h.2 (fun y hy => hd y (List.mem_cons_of_mem _ hy))⟩
      rcases List.mem_cons.1 ((insP_perm p r).mem_iff.1 hy) with rfl | hy
      · exact lt_total hl (fun e => hd x (List.mem_cons_self ..) e.symm)
      · exact h.1 y hy
/-- A sorted list whose names are not the same ascends. -/
theorem sortP_asc (l : List Prp) (hd : l.Pairwise (fun a b => a.nm ≠ b.nm)) : (sortP l).Pairwise LtP := by
  have hp := sortP_perm l
  have hd2 : (sortP l).Pairwise (fun a b => a.nm ≠ b.nm) := (hp.pairwise_iff (fun h => Ne.symm h)).2 hd
  have hs := (Go.Sort.insertionSort_holds ltP_swo l.toArray 0 l.length (Nat.zero_le _) (by simp)).2
  have hlen : (sortP l).length = l.length := hp.length_eq
  rw [List.pairwise_iff_getElem] at hd2 ⊢
  intro i j hi hj hij
  have h := hs i j (Nat.zero_le _) hij (by omega)
  have e : ∀ k (hk : k < (sortP l).length), (Sort.insertionSort (ltOf cfP) l.toArray 0 l.length)[k]! = (sortP l)[k] := by
    intro k hk
    have hk' : k < (Sort.insertionSort (ltOf cfP) l.toArray 0 l.length).size := by
      have : (sortP l).length = (Sort.insertionSort (ltOf cfP) l.toArray 0 l.length).size := by unfold sortP; exact Array.length_toList
      omega
    rw [getElem!_pos _ k hk']
    rfl
  rw [e j hj, e i hi, ltP_no] at h
  exact lt_total h (Ne.symm (hd2 i j hi hj hij))
end Go.Proofs.YtbniandbmabdbaaDoor

/- The reference's table, plain laws: insertion with duplicates told is the sorted list. -/
namespace Go.Proofs.YtbniandbmabdbaaDoor
open Go Go.RowKit
set_option linter.unusedSimpArgs false
set_option linter.unusedVariables false

theorem valid_asc : ∀ (ps : List Prp) (o : Option ByteArray), validL o ps = true → ps.Pairwise LtP ∧ ∀ q, o = some q → ∀ x ∈ ps, q.data.toList < x.nm.data.toList
  | [], _, _ => ⟨List.Pairwise.nil, fun _ _ _ h => by cases h⟩
  | p :: r, o, h => by
    have hr : validL (some p.nm) r = true := by
      cases o <;> (unfold validL at h; simp only [Bool.and_eq_true] at h; exact h.2)
    obtain ⟨h1, h2⟩ := valid_asc r _ hr
    refine ⟨List.pairwise_cons.2 ⟨fun x hx => h2 _ rfl x hx, h1⟩, fun q hq x hx => ?_⟩
    subst hq
    have hqp : q.data.toList < p.nm.data.toList := by
      unfold validL at h
      simp only [Bool.and_eq_true] at h
      exact (less_iff _ _).1 h.1.2
    rcases List.mem_cons.1 hx with rfl | hx
    · exact hqp
    · exact List.lt_trans hqp (h2 _ rfl x hx)
theorem validB_asc {ps : List Prp} (h : validB ps = true) : ps.Pairwise LtP ∧ ps.length ≤ 16 := by
  unfold validB at h
  simp only [Bool.and_eq_true, decide_eq_true_eq] at h
  exact ⟨(valid_asc ps none h.1).1, h.2⟩
theorem asc_ne {ps : List Prp} (h : ps.Pairwise LtP) : ps.Pairwise (fun a b => a.nm ≠ b.nm) := h.imp fun {a b} k e => by
  unfold LtP at k
  rw [e] at k
  exact List.lt_irrefl _ k
def freshB (p : Prp) (out : List Prp) : Bool := out.all fun x => decide (x.nm ≠ p.nm)
/-- The items, one by one: none where a name comes twice, or one more would follow on seventeen. -/
def insAll : List Prp → List Prp → Option (List Prp)
  | [], out => some out
  | p :: r, out => if freshB p out = true ∧ out.length ≤ 16 then insAll r (insP p out) else none
theorem fresh_of {p : Prp} {out : List Prp} (h : freshB p out = true) : ∀ x ∈ out, x.nm ≠ p.nm := fun x hx => of_decide_eq_true (List.all_eq_true.1 h x hx)
theorem mid_perm (p : Prp) (out r : List Prp) : (insP p out ++ r).Perm (out ++ p :: r) :=
  ((insP_perm p out).append_right r).trans List.perm_middle.symm
theorem insAll_some : ∀ (l out o : List Prp), insAll l out = some o → out.Pairwise LtP → o.Pairwise LtP ∧ o.Perm (out ++ l)
  | [], out, o, h, ha => by
    injection h with h
    subst h
    exact ⟨ha, by simp⟩
  | p :: r, out, o, h, ha => by
    unfold insAll at h
    split at h
    · rename_i hf
      obtain ⟨h1, h2⟩ := insAll_some r _ o h (insP_asc p out ha (fresh_of hf.1))
      exact ⟨h1, h2.trans (mid_perm p out r)⟩
    · cases h
theorem insAll_none : ∀ (l out : List Prp), insAll l out = none → out.Pairwise LtP → (out ++ l).Pairwise (fun a b => a.nm ≠ b.nm) → 17 < (out ++ l).length
  | [], out, h, _, _ => by cases h
  | p :: r, out, h, ha, hn => by
    unfold insAll at h
    by_cases hf : freshB p out = true ∧ out.length ≤ 16
    · rw [if_pos hf] at h
      have := insAll_none r _ h (insP_asc p out ha (fresh_of hf.1)) (((mid_perm p out r).pairwise_iff (fun h => Ne.symm h)).2 hn)
      rw [(mid_perm p out r).length_eq] at this
      exact this
    · have hfr : freshB p out = true := by
        unfold freshB
        rw [List.all_eq_true]
        intro x hx
        rw [List.pairwise_append] at hn
        exact decide_eq_true (hn.2.2 x hx p (List.mem_cons_self ..))
      have : ¬ out.length ≤ 16 := fun k => hf ⟨hfr, k⟩
      rw [List.length_append, List.length_cons]
      omega
theorem refTab_eq (l : List Prp) : ((insAll l []).bind fun o => if validB o = true then some o else none) = tabP l := by
  unfold tabP
  by_cases hv : validB (sortP l) = true
  · obtain ⟨h1, h2⟩ := validB_asc hv
    have hlen := (sortP_perm l).length_eq
    rw [if_pos ⟨by omega, hv⟩]
    have hn : l.Pairwise (fun a b => a.nm ≠ b.nm) := ((sortP_perm l).pairwise_iff (fun h => Ne.symm h)).1 (asc_ne h1)
    cases hi : insAll l [] with
    | none =>
      have := insAll_none l [] hi List.Pairwise.nil hn
      rw [List.nil_append] at this
      omega
    | some o =>
      obtain ⟨k1, k2⟩ := insAll_some l [] o hi List.Pairwise.nil
      have e : o = sortP l := asc_uniq _ _ k1 h1 (k2.trans (sortP_perm l).symm)
      rw [Option.bind_some, e, if_pos hv]
  · rw [if_neg (fun h => hv h.2)]
    cases hi : insAll l [] with
    | none => rfl
    | some o =>
      obtain ⟨k1, k2⟩ := insAll_some l [] o hi List.Pairwise.nil
      have k2' : o.Perm l := k2
      have hn : l.Pairwise (fun a b => a.nm ≠ b.nm) := (k2'.pairwise_iff (fun h => Ne.symm h)).1 (asc_ne k1)
      have e : o = sortP l := asc_uniq _ _ k1 (sortP_asc l hn) (k2'.trans (sortP_perm l).symm)
      rw [Option.bind_some, e, if_neg hv]
/-- What the reference's loop makes of bytes, behind the items that it has. -/
def refIn (s : ByteArray) (out : List Prp) : Option (List Prp) := (itemsP s.size s).bind fun l => insAll l out
theorem refIn_end {s : ByteArray} (h : s.size = 0) (out : List Prp) : refIn s out = some out := by
  unfold refIn
  rw [itemsP_nil h]
  rfl
theorem refIn_bad {s : ByteArray} (h : s.size ≠ 0) (hi : itemP s = none) (out : List Prp) : refIn s out = none := by
  unfold refIn
  rw [itemsP_step h, hi]
  rfl
theorem refIn_step {s r : ByteArray} {p : Prp} (h : s.size ≠ 0) (hi : itemP s = some (p, r)) (out : List Prp) : refIn s out = if freshB p out = true ∧ out.length ≤ 16 then refIn r (insP p out) else none := by
  unfold refIn
  rw [itemsP_step h, hi, Option.bind_some]
  dsimp only
  cases hl : itemsP r.size r with
  | none => simp
  | some l => rfl
theorem tableP_ref (s : ByteArray) : tableP s = (longP s).bind fun p => ((refIn p.1 []).bind fun o => if validB o = true then some o else none).map fun l => (l, p.2) := by
  unfold tableP
  cases longP s with
  | none => rfl
  | some p =>
    rw [Option.bind_some, Option.bind_some]
    congr 1
    unfold refIn
    cases itemsP p.1.size p.1 with
    | none => rfl
    | some l => rw [Option.bind_some, Option.bind_some, refTab_eq]
end Go.Proofs.YtbniandbmabdbaaDoor

/- The reference's table: plain laws of its two inner loops. -/
namespace Go.Proofs.YtbniandbmabdbaaDoor
open Go Go.RowKit
set_option linter.unusedSimpArgs false
set_option linter.unusedVariables false

/-- What is left behind the first k items' names have been looked at: none if one is the new one's. -/
def dupX (p : Prp) (l : List Prp) (o : Option ByteArray) : Option ByteArray := if freshB p l = true then o else none
theorem dup_nil (p : Prp) (o : Option ByteArray) : dupX p [] o = o := rfl
theorem fresh_snoc (p x : Prp) (l : List Prp) : freshB p (l ++ [x]) = (freshB p l && decide (x.nm ≠ p.nm)) := by
  unfold freshB
  rw [List.all_append]
  simp
theorem dup_yes {p x : Prp} {l : List Prp} {o : Option ByteArray} (h : x.nm = p.nm) : dupX p (l ++ [x]) o = none := by
  unfold dupX
  rw [fresh_snoc, h]
  simp
theorem dup_no {p x : Prp} {l : List Prp} {o : Option ByteArray} (h : x.nm ≠ p.nm) : dupX p (l ++ [x]) o = dupX p l o := by
  unfold dupX
  rw [fresh_snoc]
  simp [h]
/-- The new list so far, and whether the new one is in it. -/
def insT (p : Prp) : List Prp → List Prp × Bool → List Prp × Bool
  | [], s => s
  | x :: r, s => insT p r (if s.2 = false ∧ Go.Op.bytesLess p.nm.toList x.nm.toList = true then (s.1 ++ [p, x], true) else (s.1 ++ [x], s.2))
theorem insT_snoc (p x : Prp) : ∀ (l : List Prp) (s : List Prp × Bool), insT p (l ++ [x]) s = (if (insT p l s).2 = false ∧ Go.Op.bytesLess p.nm.toList x.nm.toList = true then ((insT p l s).1 ++ [p, x], true) else ((insT p l s).1 ++ [x], (insT p l s).2))
  | [], s => rfl
  | y :: r, s => by
    show insT p (r ++ [x]) _ = _
    rw [insT_snoc p x r]
    rfl
theorem insT_true (p : Prp) : ∀ (l m : List Prp), insT p l (m, true) = (m ++ l, true)
  | [], m => by simp [insT]
  | x :: r, m => by
    show insT p r _ = _
    rw [if_neg (by simp), insT_true p r]
    simp
theorem insT_end (p : Prp) : ∀ (l m : List Prp), (if (insT p l (m, false)).2 = true then (insT p l (m, false)).1 else (insT p l (m, false)).1 ++ [p]) = m ++ insP p l
  | [], m => by simp [insT, insP]
  | x :: r, m => by
    by_cases h : Go.Op.bytesLess p.nm.toList x.nm.toList = true
    · have e1 : insT p (x :: r) (m, false) = (m ++ [p, x] ++ r, true) := by
        show insT p r _ = _
        rw [if_pos ⟨rfl, h⟩, insT_true]
      have e2 : insP p (x :: r) = p :: x :: r := if_pos h
      rw [e1, e2, if_pos rfl]
      simp
    · have e1 : insT p (x :: r) (m, false) = insT p r (m ++ [x], false) := by
        show insT p r _ = _
        rw [if_neg (fun k => h k.2)]
      have e2 : insP p (x :: r) = x :: insP p r := if_neg h
      rw [e1, e2, insT_end p r (m ++ [x])]
      simp
theorem insT_len (p : Prp) : ∀ (l : List Prp) (s : List Prp × Bool), (insT p l s).1.length ≤ s.1.length + 2 * l.length
  | [], s => Nat.le_refl _
  | x :: r, s => by
    unfold insT
    have a := insT_len p r (if s.2 = false ∧ Go.Op.bytesLess p.nm.toList x.nm.toList = true then (s.1 ++ [p, x], true) else (s.1 ++ [x], s.2))
    refine Nat.le_trans a ?_
    split <;> simp only [List.length_append, List.length_cons, List.length_nil] <;> omega
theorem insT_mem (p : Prp) : ∀ (l : List Prp) (s : List Prp × Bool), ∀ q ∈ (insT p l s).1, q = p ∨ q ∈ l ∨ q ∈ s.1
  | [], s, q, h => .inr (.inr h)
  | x :: r, s, q, h => by
    unfold insT at h
    rcases insT_mem p r _ q h with h | h | h
    · exact .inl h
    · exact .inr (.inl (List.mem_cons_of_mem _ h))
    · split at h
      · simp only [List.mem_append, List.mem_cons, List.not_mem_nil, or_false] at h
        rcases h with h | h | h
        · exact .inr (.inr h)
        · exact .inl h
        · exact .inr (.inl (by rw [h]; exact List.mem_cons_self ..))
      · simp only [List.mem_append, List.mem_cons, List.not_mem_nil, or_false] at h
        rcases h with h | h
        · exact .inr (.inr h)
        · exact .inr (.inl (by rw [h]; exact List.mem_cons_self ..))
theorem insP_len (p : Prp) (l : List Prp) : (insP p l).length = l.length + 1 := (insP_perm p l).length_eq
/-- What is behind an item. -/
def itemL (y : ByteArray) : Option ByteArray := leftX (((leftX ((some y).bind shortP))).bind valP)
theorem itemL_eq (y : ByteArray) : itemL y = leftX (itemP y) := by
  unfold itemL itemP
  rw [Option.bind_some]
  cases shortP y with
  | none => rfl
  | some q =>
    show leftX ((some q.2).bind valP) = leftX ((some q).bind _)
    rw [Option.bind_some, Option.bind_some]
    cases valP q.2 <;> rfl
theorem refIn_no {y : ByteArray} {acc : List Prp} (h : y.size ≠ 0) (hi : itemL y = none) : refIn y acc = none := by
  rw [itemL_eq] at hi
  refine refIn_bad h ?_ acc
  cases hy : itemP y with
  | none => rfl
  | some q => rw [hy] at hi; cases hi
theorem canonR_lt {n : Nat} (h : n < 18446744073709551616) : canonR n < 18446744073709551616 := by
  unfold canonR
  split
  · decide
  · exact h
theorem widR_lt (n : Nat) (w : World) : widR n < 18446744073709551616 := by
  obtain ⟨b, _, _, _, h, hb⟩ := to64_any2 n w
  rw [← h]
  exact canonR_lt hb
theorem valP_r (w : World) {s r : ByteArray} {v : Vl} (h : valP s = some (v, r)) : v.r < 18446744073709551616 := by
  unfold valP at h
  obtain ⟨q0, h0, h⟩ := Option.bind_eq_some_iff.1 h
  obtain ⟨x, r0⟩ := q0
  dsimp only at h
  unfold valQ at h
  have key : ∀ {k : Nat} {f : Nat → Vl} {a : ByteArray}, (∀ n, n < 256 ^ k → (f n).r < 18446744073709551616) → (numP k a).map (fun q => (f q.1, q.2)) = some (v, r) → v.r < 18446744073709551616 := by
    intro k f a hf h
    obtain ⟨q, h1, h2⟩ := Option.map_eq_some_iff.1 h
    obtain ⟨n, y⟩ := q
    injection h2 with h2 _
    rw [← h2]
    exact hf _ (numP_lt h1)
  have z : (0 : Nat) < 18446744073709551616 := by decide
  (repeat' split at h)
  · exact key (f := fun n => ⟨2, n, ByteArray.empty, 0⟩) (fun _ _ => z) h
  · exact key (f := fun n => ⟨1, sgn 8 n, ByteArray.empty, 0⟩) (fun _ _ => z) h
  · exact key (f := fun n => ⟨1, sgn 16 n, ByteArray.empty, 0⟩) (fun _ _ => z) h
  · exact key (f := fun n => ⟨1, sgn 32 n, ByteArray.empty, 0⟩) (fun _ _ => z) h
  · exact key (f := fun n => ⟨1, sgn 64 n, ByteArray.empty, 0⟩) (fun _ _ => z) h
  · exact key (f := fun n => ⟨4, 0, ByteArray.empty, widR n⟩) (fun n _ => widR_lt n w) h
  · exact key (f := fun n => ⟨4, 0, ByteArray.empty, canonR n⟩) (fun n hn => canonR_lt hn) h
  · obtain ⟨q, h1, h2⟩ := Option.map_eq_some_iff.1 h
    injection h2 with h2 _
    rw [← h2]
    exact z
  · cases h
theorem tab_bind (o : Option ByteArray) : o.bind tableP = (o.bind longP).bind fun p => ((refIn p.1 []).bind fun o => if validB o = true then some o else none).map fun l => (l, p.2) := by
  cases o with
  | none => rfl
  | some s => rw [Option.bind_some, tableP_ref, Option.bind_some]
theorem tab_bad1 {o : Option ByteArray} {O : Option (ByteArray × ByteArray)} {x : ByteArray} (hO : O = o.bind longP) (hx : x = outX ByteArray.empty O) (h : refIn x [] = none) : o.bind tableP = none := by
  rw [tab_bind, ← hO]
  cases O with
  | none => rfl
  | some q =>
    have : x = q.1 := hx
    subst this
    rw [Option.bind_some, h]
    rfl
theorem tab_bad2 {o : Option ByteArray} {O : Option (ByteArray × ByteArray)} {x : ByteArray} {acc : List Prp} (hO : O = o.bind longP) (hx : x = outX ByteArray.empty O) (h : refIn x [] = some acc) (hv : validB acc = false) : o.bind tableP = none := by
  rw [tab_bind, ← hO]
  cases O with
  | none => rfl
  | some q =>
    have : x = q.1 := hx
    subst this
    rw [Option.bind_some, h, Option.bind_some, hv]
    rfl
theorem tab_good {o : Option ByteArray} {O : Option (ByteArray × ByteArray)} {x : ByteArray} {acc : List Prp} (hO : O = o.bind longP) (hx : x = outX ByteArray.empty O) (h : refIn x [] = some acc) (hv : validB acc = true) : outX [] (o.bind tableP) = acc ∧ leftX (o.bind tableP) = leftX O := by
  rw [tab_bind, ← hO]
  cases O with
  | none =>
    have : x = ByteArray.empty := hx
    subst this
    rw [refIn_end rfl] at h
    injection h with h
    exact ⟨h, rfl⟩
  | some q =>
    have : x = q.1 := hx
    subst this
    rw [Option.bind_some, h, Option.bind_some, hv]
    exact ⟨rfl, rfl⟩
/-- What the reading of an item makes. -/
theorem item_of {y y2 : ByteArray} {v : Vl} (hv : ∀ p r, (leftX ((some y).bind shortP)).bind valP = some (p, r) → v = p) (hl : leftX ((leftX ((some y).bind shortP)).bind valP) = some y2) :
    itemP y = some (⟨outX ByteArray.empty ((some y).bind shortP), v.k, v.n, v.t, v.r⟩, y2) := by
  unfold itemP
  rw [Option.bind_some] at hv hl ⊢
  cases hs : shortP y with
  | none => rw [hs] at hl; cases hl
  | some q =>
    rw [hs] at hv hl
    rw [show leftX (some q) = some q.2 from rfl, Option.bind_some] at hv hl
    rw [Option.bind_some]
    cases hw : valP q.2 with
    | none => rw [hw] at hl; cases hl
    | some z =>
      rw [hw] at hl
      have h1 := hv z.1 z.2 hw
      have h2 : z.2 = y2 := Option.some.inj hl
      subst h2
      rw [h1]
      rfl
theorem dup_some {p : Prp} {l : List Prp} {o : Option ByteArray} {y : ByteArray} (h : dupX p l o = some y) : o = some y ∧ freshB p l = true := by
  unfold dupX at h
  split at h
  · rename_i hf; exact ⟨h, hf⟩
  · cases h
/-- The reading of an item that ends it. -/
theorem in_stop {x y : ByteArray} {acc : List Prp} {p : Prp} {o : Option ByteArray} (ht : refIn x [] = refIn y acc) (hy : y.size ≠ 0) (hi : ∀ y2, o = some y2 → itemP y = some (p, y2)) (ho : o = itemL y) (hd : dupX p acc o = none) : refIn x [] = none := by
  rw [ht]
  cases hO : o with
  | none => exact refIn_no hy (ho.symm.trans hO)
  | some y2 =>
    rw [refIn_step hy (hi y2 hO)]
    refine if_neg fun k => ?_
    unfold dupX at hd
    rw [if_pos k.1, hO] at hd
    cases hd
theorem in_long {x y y2 : ByteArray} {acc : List Prp} {p : Prp} (ht : refIn x [] = refIn y acc) (hy : y.size ≠ 0) (hi : itemP y = some (p, y2)) (hl : 16 < acc.length) : refIn x [] = none := by
  rw [ht, refIn_step hy hi]
  exact if_neg fun k => by omega
theorem in_next {x y y2 : ByteArray} {acc : List Prp} {p : Prp} (ht : refIn x [] = refIn y acc) (hy : y.size ≠ 0) (hi : itemP y = some (p, y2)) (hf : freshB p acc = true) (hl : acc.length ≤ 16) : refIn x [] = refIn y2 (insP p acc) := by
  rw [ht, refIn_step hy hi]
  exact if_pos ⟨hf, hl⟩
theorem valid_17 {acc : List Prp} (h : 16 < acc.length) : validB acc = false := by
  cases hv : validB acc with
  | false => rfl
  | true => have := valid_len hv; omega
theorem itemP_r (w : World) {s r : ByteArray} {p : Prp} (h : itemP s = some (p, r)) : p.r < 18446744073709551616 := by
  unfold itemP at h
  obtain ⟨q, h1, h2⟩ := Option.bind_eq_some_iff.1 h
  obtain ⟨q2, h3, h4⟩ := Option.map_eq_some_iff.1 h2
  injection h4 with h4 h5
  rw [← h4]
  exact valP_r w (s := q.2) (v := q2.1) (r := q2.2) h3
end Go.Proofs.YtbniandbmabdbaaDoor

/- The reference's names. -/
namespace Go.Proofs.YtbniandbmabdbaaDoor
open Go Go.RowKit
set_option linter.unusedSimpArgs false
set_option linter.unusedVariables false

theorem dw_nil (p : UInt8 → Bool) : ∀ l : List UInt8, l.all p = true → l.dropWhile p = []
  | [], _ => rfl
  | a :: r, h => by
    rw [List.all_cons, Bool.and_eq_true] at h
    rw [List.dropWhile_cons_of_pos h.1]
    exact dw_nil p r h.2
theorem dw_some (p : UInt8 → Bool) : ∀ l : List UInt8, l.all p = false → ∃ c r, l.dropWhile p = c :: r ∧ p c = false
  | [], h => by cases h
  | a :: r, h => by
    cases ha : p a with
    | true =>
      rw [List.dropWhile_cons_of_pos ha]
      rw [List.all_cons, ha, Bool.true_and] at h
      exact dw_some p r h
    | false => exact ⟨a, r, List.dropWhile_cons_of_neg (by rw [ha]; decide), ha⟩
theorem trim_all (l cs : List UInt8) : (Lib.trimS l cs).isEmpty = l.all (cs.contains ·) := by
  unfold Lib.trimS Lib.trimLeftS Lib.trimRightS
  cases h : l.all (cs.contains ·) with
  | true =>
    rw [dw_nil _ l.reverse (by rw [List.all_reverse]; exact h)]
    rfl
  | false =>
    obtain ⟨c, r, h1, h2⟩ := dw_some (cs.contains ·) l.reverse (by rw [List.all_reverse]; exact h)
    rw [h1]
    obtain ⟨d, q, h3, _⟩ := dw_some (cs.contains ·) (c :: r).reverse (by rw [List.all_reverse, List.all_cons, h2]; rfl)
    rw [h3]
    rfl
def letC (c : UInt8) : Bool := letters.data.toList.contains c
theorem let_all : (List.range 256).all (fun n => letC (UInt8.ofNat n) == ((decide (97 ≤ n) && decide (n ≤ 122)) || (decide (48 ≤ n) && decide (n ≤ 57)) || decide (n = 45) || decide (n = 95))) = true := by decide +kernel
theorem let_eq (c : UInt8) : letC c = ((decide (97 ≤ c.toNat) && decide (c.toNat ≤ 122)) || (decide (48 ≤ c.toNat) && decide (c.toNat ≤ 57)) || decide (c.toNat = 45) || decide (c.toNat = 95)) := by
  have h := List.all_eq_true.1 let_all c.toNat (List.mem_range.2 (UInt8.toNat_lt c))
  rw [UInt8.ofNat_toNat] at h
  exact eq_of_beq h
theorem let_yes {c : UInt8} (h : letC c = true) : (97 ≤ c.toNat ∧ c.toNat ≤ 122) ∨ (48 ≤ c.toNat ∧ c.toNat ≤ 57) ∨ c.toNat = 45 ∨ c.toNat = 95 := by
  rw [let_eq] at h
  simp only [Bool.or_eq_true, Bool.and_eq_true, decide_eq_true_eq] at h
  omega
theorem let_no {c : UInt8} (h : letC c = false) : c.toNat < 45 ∨ (45 < c.toNat ∧ c.toNat < 48) ∨ (57 < c.toNat ∧ c.toNat < 95) ∨ c.toNat = 96 ∨ 122 < c.toNat := by
  rw [let_eq] at h
  simp only [Bool.or_eq_false_iff, Bool.and_eq_false_iff, decide_eq_false_iff_not] at h
  omega
theorem name_all (s : ByteArray) : nameB s = (decide (0 < s.size) && decide (s.size ≤ 16) && s.data.toList.all letC) := by
  unfold nameB
  rw [trim_all]
  rfl

set_option maxRecDepth 100000 in
set_option maxHeartbeats 2000000 in
theorem refName_c {w : World} (s : ByteArray) (hs : s.size ≤ 140737488351232) :
    Calls Tryd.prog 36 #[.string s] w fun e w' => e = .returned (.bool (nameB s)) ∧ w = w' := by
  have hna := name_all s
  obtain ⟨b, hb⟩ : ∃ b, b = nameB s := ⟨_, rfl⟩
  rw [← hb] at hna ⊢
  have HNA := Lib.hid hna
  have hs' : (s.size : Int) ≤ 140737488351232 := by omega
  clear hna hb hs
  go_enter Tryd.func36, Tryd.ntmps36
  go_wp2_with fail
  go_loop [3] (fun i => ∃ k : Nat, k ≤ s.size ∧ i = .int .i64 k ∧ Hid ((s.data.toList.take k).all letC = true)) (fun i => s.size - (intOf i).toNat)
  case atStart => exact ⟨0, Nat.zero_le _, rfl, Lib.hid rfl⟩
  case round =>
    obtain ⟨k, hk, rfl, HA⟩ := hrel
    by_cases hlt : k < s.size
    · have hlt' : (k : Int) < s.size := by omega
      cases hl : letC s[k] with
      | true =>
        have HA2 := Lib.hid (show (s.data.toList.take (k + 1)).all letC = true by rw [List.take_add_one, ba_at s k hlt, List.all_append, HA.out]; simp [hl])
        have hy := let_yes hl
        have HLT := Lib.hid hlt
        clear HA hl
        rcases hy with ⟨c0, c1⟩ | ⟨c0, c1⟩ | c0 | c0
        · have c0' : (97 : Int) ≤ s[k].toNat := by omega
          have c1' : (s[k].toNat : Int) ≤ 122 := by omega
          clear c0 c1
          go_wp2_with fail
          go_round
          case rel => exact ⟨k + 1, by omega, by go_num, HA2⟩
          case measure => have := HLT.out; simp [intOf]; omega
        · have c0' : (48 : Int) ≤ s[k].toNat := by omega
          have c1' : (s[k].toNat : Int) ≤ 57 := by omega
          have c2' : (s[k].toNat : Int) < 97 := by omega
          clear c0 c1
          go_wp2_with fail
          go_round
          case rel => exact ⟨k + 1, by omega, by go_num, HA2⟩
          case measure => have := HLT.out; simp [intOf]; omega
        · have c0' : (s[k].toNat : Int) = 45 := by omega
          clear c0
          go_wp2_with fail
          go_round
          case rel => exact ⟨k + 1, by omega, by go_num, HA2⟩
          case measure => have := HLT.out; simp [intOf]; omega
        · have b95 : ((s[k].toNat : Int) == 95) = true := beq_iff_eq.2 (by omega)
          have b45 : ((s[k].toNat : Int) == 45) = false := beq_eq_false_iff_ne.2 (by omega)
          have c0' : (s[k].toNat : Int) = 95 := by omega
          have c1' : (s[k].toNat : Int) < 97 := by omega
          have c2' : (48 : Int) ≤ s[k].toNat := by omega
          have c4' : (57 : Int) < s[k].toNat := by omega
          have d57 : decide ((s[k].toNat : Int) ≤ 57) = false := decide_eq_false (by omega)
          clear c0
          go_wp2_with fail
          · exfalso
            rename_i h _ _
            simp at h
            exact h.2 c0'
          go_round
          case rel => exact ⟨k + 1, by omega, by go_num, HA2⟩
          case measure => have := HLT.out; simp [intOf]; omega
      | false =>
        have hbf : b = false := by
          rw [HNA.out, show s.data.toList.all letC = false from ?_, Bool.and_false]
          rw [← Bool.not_eq_true, List.all_eq_true]
          intro h
          have := h s[k] (List.mem_of_getElem? (ba_at s k hlt))
          rw [hl] at this
          cases this
        have hy := let_no hl
        subst hbf
        clear HA hl HNA
        have e45 : (s[k].toNat : Int) ≠ 45 := by omega
        have e95 : (s[k].toNat : Int) ≠ 95 := by omega
        have b45 : ((s[k].toNat : Int) == 45) = false := beq_eq_false_iff_ne.2 e45
        have b95 : ((s[k].toNat : Int) == 95) = false := beq_eq_false_iff_ne.2 e95
        clear e45 e95
        rcases hy with c0 | ⟨c0, c1⟩ | ⟨c0, c1⟩ | c0 | c0
        · have c0' : (s[k].toNat : Int) < 48 := by omega
          have c2' : (s[k].toNat : Int) < 97 := by omega
          clear c0
          go_wp2_with fail
          go_ret
          exact ⟨rfl, rfl⟩
        · have c0' : (s[k].toNat : Int) < 48 := by omega
          have c2' : (s[k].toNat : Int) < 97 := by omega
          clear c0 c1
          go_wp2_with fail
          go_ret
          exact ⟨rfl, rfl⟩
        · have c0' : (57 : Int) < s[k].toNat := by omega
          have d57 : decide ((s[k].toNat : Int) ≤ 57) = false := decide_eq_false (by omega)
          have c1' : (s[k].toNat : Int) < 97 := by omega
          have c2' : (48 : Int) ≤ s[k].toNat := by omega
          clear c0 c1
          go_wp2_with fail
          go_ret
          exact ⟨rfl, rfl⟩
        · have c0' : (s[k].toNat : Int) = 96 := by omega
          clear c0 b45 b95
          go_wp2_with fail
          go_ret
          exact ⟨rfl, rfl⟩
        · have c0' : (122 : Int) < s[k].toNat := by omega
          have c2' : (48 : Int) ≤ s[k].toNat := by omega
          have c3' : (97 : Int) ≤ s[k].toNat := by omega
          have c4' : (57 : Int) < s[k].toNat := by omega
          have d57 : decide ((s[k].toNat : Int) ≤ 57) = false := decide_eq_false (by omega)
          have d122 : decide ((s[k].toNat : Int) ≤ 122) = false := decide_eq_false (by omega)
          clear c0
          go_wp2_with fail
          go_ret
          exact ⟨rfl, rfl⟩
    · have hd : s.data.toList.take k = s.data.toList := List.take_of_length_le (by rw [ba_size]; omega)
      rw [hd] at HA
      have hb2 : b = (decide (0 < s.size) && decide (s.size ≤ 16)) := by rw [HNA.out, HA.out, Bool.and_true]
      have hge : (s.size : Int) ≤ k := by omega
      clear HNA HA hd hlt
      by_cases h0 : 0 < s.size
      · by_cases h1 : s.size ≤ 16
        · obtain rfl : b = true := by rw [hb2, decide_eq_true h0, decide_eq_true h1]; rfl
          have h0' : (1 : Int) ≤ s.size := by omega
          have h1' : (s.size : Int) ≤ 16 := by omega
          clear hb2 h0 h1
          go_wp2_with fail
          go_ret
          exact ⟨by first | rfl | (show Ending.returned (Value.bool (decide ((s.size : Int) ≤ 16))) = _; rw [decide_eq_true h1']) | (show Ending.returned (Value.bool (decide ((s.size : Int) ≤ 16))) = _; rw [decide_eq_false (by omega)]), rfl⟩
        · obtain rfl : b = false := by rw [hb2, decide_eq_false h1, Bool.and_false]
          have h1' : (16 : Int) < s.size := by omega
          clear hb2 h0 h1
          go_wp2_with fail
          go_ret
          exact ⟨by first | rfl | (show Ending.returned (Value.bool (decide ((s.size : Int) ≤ 16))) = _; rw [decide_eq_true h1']) | (show Ending.returned (Value.bool (decide ((s.size : Int) ≤ 16))) = _; rw [decide_eq_false (by omega)]), rfl⟩
      · obtain rfl : b = false := by rw [hb2, decide_eq_false h0, Bool.false_and]
        have h1' : (s.size : Int) < 1 := by omega
        clear hb2 h0
        go_wp2_with fail
        go_ret
        exact ⟨by first | rfl | (show Ending.returned (Value.bool (decide ((s.size : Int) ≤ 16))) = _; rw [decide_eq_true h1']) | (show Ending.returned (Value.bool (decide ((s.size : Int) ≤ 16))) = _; rw [decide_eq_false (by omega)]), rfl⟩
end Go.Proofs.YtbniandbmabdbaaDoor

/- The reference's Good. -/
namespace Go.Proofs.YtbniandbmabdbaaDoor
open Go Go.RowKit
set_option linter.unusedSimpArgs false
set_option linter.unusedVariables false

theorem refCanon_q {w : World} (r : Nat) (hr : r < 18446744073709551616) : Calls Tryd.prog 51 #[.float .f64 r] w fun e w' => e = .returned (.float .f64 (canonR r)) ∧ w' = w := (refCanon_c r hr).mono fun e w' ⟨a, b⟩ => ⟨a, b.symm⟩
theorem rawSame_q' {w : World} (r r' : Nat) : Calls Tryd.prog 46 #[.float .f64 r, .float .f64 r'] w fun e w' => e = .returned (.bool (decide (r = r'))) ∧ w' = w := (rawSame_c r r').mono fun e w' ⟨a, b⟩ => ⟨a, b.symm⟩

set_option maxRecDepth 100000 in
set_option maxHeartbeats 4000000 in
theorem refGood_c {w : World} (k n : Int) (t : ByteArray) (r : Nat) (hr64 : r < 18446744073709551616) :
    Calls Tryd.prog 37 #[.agg #[.int .i64 k, .int .i64 n, .string t, .float .f64 r]] w fun e w' => e = .returned (.bool (goodB k n t r)) ∧ Below w.heap.size w w' := by
  have bW := (Below.refl w.heap.size w).alloc (Nat.le_refl _) (.cells #[.int .i64 k, .int .i64 n, .string t, .float .f64 r] 57)
  have HR := Lib.hid hr64
  clear hr64
  have ht : (t = ByteArray.empty ∧ t.size = 0) ∨ (t.toList.isEmpty = false ∧ t.size ≠ 0) := by
    by_cases h : t.size = 0
    · exact .inl ⟨ba_nil h, h⟩
    · exact .inr ⟨ne_nil t (by omega), h⟩
  have hr : (r = 0) ∨ (r ≠ 0 ∧ ((r : Int) == 0) = false) := by by_cases h : r = 0; exact .inl h; exact .inr ⟨h, beq_eq_false_iff_ne.2 (by omega)⟩
  by_cases h1 : k = 1
  · subst h1
    rcases ht with ⟨rfl, hz⟩ | ⟨hE, hz⟩
    · rcases hr with rfl | ⟨hr, hrb⟩
      · skip
        have e : goodB 1 n ByteArray.empty 0 = true := by unfold goodB; simp
        rw [e]
        clear e
        go_enter Tryd.func37, Tryd.ntmps37
        go_wp2_with fail
        refine (bits_c _).mono ?_
        rintro e w1 ⟨rfl, rfl⟩
        go_wp2_with fail
        go_ret
        exact ⟨by first | rfl | (simp; done) | (simp; omega), bW⟩
      · skip
        have e : goodB 1 n ByteArray.empty r = false := by unfold goodB; simp [hr]
        rw [e]
        clear e
        go_enter Tryd.func37, Tryd.ntmps37
        go_wp2_with fail
        refine (bits_c _).mono ?_
        rintro e w1 ⟨rfl, rfl⟩
        go_wp2_with fail
        go_ret
        exact ⟨by first | rfl | (simp; done) | (simp; omega), bW⟩
    · skip
      have e : goodB 1 n t r = false := by unfold goodB; simp [hz]
      rw [e]
      clear e
      go_enter Tryd.func37, Tryd.ntmps37
      go_wp2_with fail
      refine (bits_c _).mono ?_
      rintro e w1 ⟨rfl, rfl⟩
      go_wp2_with fail
      go_ret
      exact ⟨by first | rfl | (simp; done) | (simp; omega), bW⟩
  have k1 : (k == 1) = false := beq_eq_false_iff_ne.2 h1
  by_cases h2 : k = 2
  · subst h2
    rcases ht with ⟨rfl, hz⟩ | ⟨hE, hz⟩
    · rcases hr with rfl | ⟨hr, hrb⟩
      · by_cases n0 : n < 0
        · skip
          have e : goodB 2 n ByteArray.empty 0 = false := by unfold goodB; simp; omega
          rw [e]
          clear e
          go_enter Tryd.func37, Tryd.ntmps37
          go_wp2_with fail
          refine (bits_c _).mono ?_
          rintro e w1 ⟨rfl, rfl⟩
          go_wp2_with fail
          go_ret
          exact ⟨by first | rfl | (simp; done) | (simp; omega), bW⟩
        by_cases n1 : 1 < n
        · have n0b : 0 ≤ n := by omega
          have e : goodB 2 n ByteArray.empty 0 = false := by unfold goodB; simp; omega
          rw [e]
          clear e
          go_enter Tryd.func37, Tryd.ntmps37
          go_wp2_with fail
          refine (bits_c _).mono ?_
          rintro e w1 ⟨rfl, rfl⟩
          go_wp2_with fail
          go_ret
          exact ⟨by first | rfl | (simp; done) | (simp; omega), bW⟩
        have n0b : 0 ≤ n := by omega
        have n1b : n ≤ 1 := by omega
        have e : goodB 2 n ByteArray.empty 0 = true := by unfold goodB; simp; omega
        rw [e]
        clear e n0 n1
        go_enter Tryd.func37, Tryd.ntmps37
        go_wp2_with fail
        refine (bits_c _).mono ?_
        rintro e w1 ⟨rfl, rfl⟩
        go_wp2_with fail
        go_ret
        exact ⟨by first | rfl | (simp; done) | (simp; omega), bW⟩
      · skip
        have e : goodB 2 n ByteArray.empty r = false := by unfold goodB; simp [hr]
        rw [e]
        clear e
        go_enter Tryd.func37, Tryd.ntmps37
        go_wp2_with fail
        refine (bits_c _).mono ?_
        rintro e w1 ⟨rfl, rfl⟩
        go_wp2_with fail
        go_ret
        exact ⟨by first | rfl | (simp; done) | (simp; omega), bW⟩
    · skip
      have e : goodB 2 n t r = false := by unfold goodB; simp [hz]
      rw [e]
      clear e
      go_enter Tryd.func37, Tryd.ntmps37
      go_wp2_with fail
      refine (bits_c _).mono ?_
      rintro e w1 ⟨rfl, rfl⟩
      go_wp2_with fail
      go_ret
      exact ⟨by first | rfl | (simp; done) | (simp; omega), bW⟩
  have k2 : (k == 2) = false := beq_eq_false_iff_ne.2 h2
  by_cases h3 : k = 3
  · subst h3
    by_cases n0 : n = 0
    · subst n0
      rcases hr with rfl | ⟨hr, hrb⟩
      · by_cases t0 : t.size ≤ 256
        · have t0I : (t.size : Int) ≤ 256 := by omega
          have e : goodB 3 0 t 0 = true := by unfold goodB; simp; omega
          rw [e]
          clear e ht
          go_enter Tryd.func37, Tryd.ntmps37
          go_wp2_with fail
          refine (bits_c _).mono ?_
          rintro e w1 ⟨rfl, rfl⟩
          go_wp2_with fail
          go_ret
          exact ⟨by first | rfl | (simp; done) | (simp; omega), bW⟩
        · have t0I : (256 : Int) < t.size := by omega
          have e : goodB 3 0 t 0 = false := by unfold goodB; simp; omega
          rw [e]
          clear e ht t0
          go_enter Tryd.func37, Tryd.ntmps37
          go_wp2_with fail
          refine (bits_c _).mono ?_
          rintro e w1 ⟨rfl, rfl⟩
          go_wp2_with fail
          go_ret
          exact ⟨by first | rfl | (simp; done) | (simp; omega), bW⟩
      · skip
        have e : goodB 3 0 t r = false := by unfold goodB; simp [hr]
        rw [e]
        clear e ht
        go_enter Tryd.func37, Tryd.ntmps37
        go_wp2_with fail
        refine (bits_c _).mono ?_
        rintro e w1 ⟨rfl, rfl⟩
        go_wp2_with fail
        go_ret
        exact ⟨by first | rfl | (simp; done) | (simp; omega), bW⟩
    · have n0b : (n == 0) = false := beq_eq_false_iff_ne.2 n0
      have e : goodB 3 n t r = false := by unfold goodB; simp [n0]
      rw [e]
      clear e ht
      go_enter Tryd.func37, Tryd.ntmps37
      go_wp2_with fail
      refine (bits_c _).mono ?_
      rintro e w1 ⟨rfl, rfl⟩
      go_wp2_with fail
      go_ret
      exact ⟨by first | rfl | (simp; done) | (simp; omega), bW⟩
  have k3 : (k == 3) = false := beq_eq_false_iff_ne.2 h3
  by_cases h4 : k = 4
  · subst h4
    by_cases n0 : n = 0
    · subst n0
      rcases ht with ⟨rfl, hz⟩ | ⟨hE, hz⟩
      · by_cases hc : r = canonR r
        · have hd : decide (r = canonR r) = true := decide_eq_true hc
          have e : goodB 4 0 ByteArray.empty r = true := by unfold goodB; simp; exact hc
          rw [e]
          clear e hc hr
          go_enter Tryd.func37, Tryd.ntmps37
          go_wp2_with fail
          refine (bits_c _).mono ?_
          rintro e w1 ⟨rfl, rfl⟩
          go_wp2_with fail
          go_quiet ((first | (go_at_call 46; with_reducible exact Calls.quiet_of_same (rawSame_q' _ _)) | (go_at_call 51; with_reducible exact Calls.quiet_of_same (refCanon_q _ HR.out))))
          go_wp2_with fail
          go_ret
          exact ⟨by first | rfl | (simp; done) | (simp; omega), bW.trans ((below_drewN _ _).mono bW.size)⟩
        · have hd : decide (r = canonR r) = false := decide_eq_false hc
          have e : goodB 4 0 ByteArray.empty r = false := by unfold goodB; simp; exact hc
          rw [e]
          clear e hc hr
          go_enter Tryd.func37, Tryd.ntmps37
          go_wp2_with fail
          refine (bits_c _).mono ?_
          rintro e w1 ⟨rfl, rfl⟩
          go_wp2_with fail
          go_quiet ((first | (go_at_call 46; with_reducible exact Calls.quiet_of_same (rawSame_q' _ _)) | (go_at_call 51; with_reducible exact Calls.quiet_of_same (refCanon_q _ HR.out))))
          go_wp2_with fail
          go_ret
          exact ⟨by first | rfl | (simp; done) | (simp; omega), bW.trans ((below_drewN _ _).mono bW.size)⟩
      · skip
        have e : goodB 4 0 t r = false := by unfold goodB; simp [hz]
        rw [e]
        clear e hr
        go_enter Tryd.func37, Tryd.ntmps37
        go_wp2_with fail
        refine (bits_c _).mono ?_
        rintro e w1 ⟨rfl, rfl⟩
        go_wp2_with fail
        go_quiet ((first | (go_at_call 46; with_reducible exact Calls.quiet_of_same (rawSame_q' _ _)) | (go_at_call 51; with_reducible exact Calls.quiet_of_same (refCanon_q _ HR.out))))
        go_wp2_with fail
        go_ret
        exact ⟨by first | rfl | (simp; done) | (simp; omega), bW.trans ((below_drewN _ _).mono bW.size)⟩
    · have n0b : (n == 0) = false := beq_eq_false_iff_ne.2 n0
      have e : goodB 4 n t r = false := by unfold goodB; simp [n0]
      rw [e]
      clear e ht hr
      go_enter Tryd.func37, Tryd.ntmps37
      go_wp2_with fail
      refine (bits_c _).mono ?_
      rintro e w1 ⟨rfl, rfl⟩
      go_wp2_with fail
      go_quiet ((first | (go_at_call 46; with_reducible exact Calls.quiet_of_same (rawSame_q' _ _)) | (go_at_call 51; with_reducible exact Calls.quiet_of_same (refCanon_q _ HR.out))))
      go_wp2_with fail
      go_ret
      exact ⟨by first | rfl | (simp; done) | (simp; omega), bW.trans ((below_drewN _ _).mono bW.size)⟩
  have k4 : (k == 4) = false := beq_eq_false_iff_ne.2 h4
  have e : goodB k n t r = false := by unfold goodB; simp [h1, h2, h3, h4]
  rw [e]
  clear e ht hr
  go_enter Tryd.func37, Tryd.ntmps37
  go_wp2_with fail
  refine (bits_c _).mono ?_
  rintro e w1 ⟨rfl, rfl⟩
  go_wp2_with fail
  go_quiet ((first | (go_at_call 46; with_reducible exact Calls.quiet_of_same (rawSame_q' _ _)) | (go_at_call 51; with_reducible exact Calls.quiet_of_same (refCanon_q _ HR.out))))
  go_wp2_with fail
  go_ret
  exact ⟨by first | rfl | (simp; done) | (simp; omega), bW.trans ((below_drewN _ _).mono bW.size)⟩
end Go.Proofs.YtbniandbmabdbaaDoor

/- The reference's Valid. -/
namespace Go.Proofs.YtbniandbmabdbaaDoor
open Go Go.RowKit
set_option linter.unusedSimpArgs false
set_option linter.unusedVariables false

theorem less_trans {a b c : ByteArray} (h1 : Go.Op.bytesLess a.toList b.toList = true) (h2 : Go.Op.bytesLess b.toList c.toList = true) : Go.Op.bytesLess a.toList c.toList = true := by
  rw [less_iff] at h1 h2 ⊢
  exact List.lt_trans h1 h2
/-- The names ahead of the last are less than it. -/
def Asc (ps : List Prp) (k : Nat) : Prop := ∀ j x q, j + 1 < k → ps[j]? = some x → pvN ps k = some q → Go.Op.bytesLess x.nm.toList q.toList = true
def LessAll (ps : List Prp) (m : Nat) (p : Prp) : Prop := ∀ j x, j < m → ps[j]? = some x → Go.Op.bytesLess x.nm.toList p.nm.toList = true
theorem valid_stop {ps : List Prp} {k m : Nat} {p x : Prp} (hI : validL none ps = validL (pvN ps k) (ps.drop k)) (hQ : Asc ps k) (hd : ps.drop k = p :: ps.drop (k + 1)) (hk : k < ps.length) (hm : m < k) (hx : ps[m]? = some x) (hno : Go.Op.bytesLess x.nm.toList p.nm.toList = false) : validB ps = false := by
  obtain ⟨j, rfl⟩ : ∃ j, k = j + 1 := ⟨k - 1, by omega⟩
  have hq : ps[j]? = some ps[j] := List.getElem?_eq_getElem (by omega)
  have hpv := pvN_succ hq
  have hn : Go.Op.bytesLess ps[j].nm.toList p.nm.toList = false := by
    by_cases e : m = j
    · subst e
      rw [hq] at hx
      injection hx with hx
      rw [hx]
      exact hno
    · have h1 := hQ m x _ (by omega) hx hpv
      cases h2 : Go.Op.bytesLess ps[j].nm.toList p.nm.toList with
      | false => rfl
      | true => rw [less_trans h1 h2] at hno; cases hno
  unfold validB
  rw [hI, hd, hpv]
  simp [validL, hn]
theorem valid_on {ps : List Prp} {k : Nat} {p : Prp} (hI : validL none ps = validL (pvN ps k) (ps.drop k)) (hd : ps.drop k = p :: ps.drop (k + 1)) (hp : ps[k]? = some p) (hnm : nameB p.nm = true) (hgd : p.good = true) (hL : LessAll ps k p) : validL none ps = validL (pvN ps (k + 1)) (ps.drop (k + 1)) := by
  rw [hI, hd, pvN_succ hp]
  cases k with
  | zero =>
    show validL none (p :: _) = _
    simp [validL, hnm, hgd]
  | succ j =>
    have hj : j < ps.length := by have := (List.getElem?_eq_some_iff.1 hp).1; omega
    have hq : ps[j]? = some ps[j] := List.getElem?_eq_getElem hj
    rw [pvN_succ hq]
    have := hL j _ (by omega) hq
    simp [validL, hnm, hgd, this]
theorem asc_succ {ps : List Prp} {k : Nat} {p : Prp} (hp : ps[k]? = some p) (hL : LessAll ps k p) : Asc ps (k + 1) := by
  intro j x q hj hx hq
  rw [pvN_succ hp] at hq
  injection hq with hq
  subst hq
  exact hL j x (by omega) hx
theorem less_succ {ps : List Prp} {m : Nat} {p x : Prp} (hL : LessAll ps m p) (hx : ps[m]? = some x) (h : Go.Op.bytesLess x.nm.toList p.nm.toList = true) : LessAll ps (m + 1) p := by
  intro j y hj hy
  by_cases e : j = m
  · subst e
    rw [hx] at hy
    injection hy with hy
    subst hy
    exact h
  · exact hL j y (by omega) hy

set_option maxRecDepth 100000 in
set_option maxHeartbeats 2000000 in
theorem refValid_c {w : World} {v : Value} {ps : List Prp} (hp : RPr w v ps) (hsz : ∀ p ∈ ps, p.nm.size ≤ 140737488351232 ∧ p.r < 18446744073709551616) :
    Calls Tryd.prog 27 #[v] w fun e w' => e = .returned (.bool (validB ps)) ∧ Below w.heap.size w w' := by
  have h63 : ps.length ≤ 9223372036854775807 := by obtain ⟨_, _, _, h1, h2, _⟩ := id hp; omega
  obtain ⟨A, c, rfl, hnc, hcell⟩ := props_at hp
  have HC := Lib.hid hcell
  have HS := Lib.hid hsz
  have H63 := Lib.hid h63
  clear h63
  have qs := store_float (P := Tryd.prog)
  obtain ⟨vb, hvb⟩ : ∃ vb, vb = validB ps := ⟨_, rfl⟩
  have HV := Lib.hid hvb
  rw [← hvb]
  clear hp hcell hsz hvb
  go_enter Tryd.func27, Tryd.ntmps27
  go_wp2_with fail
  go_loopw [8] (fun i wr => ∃ k : Nat, k ≤ ps.length ∧ k ≤ 16 ∧ i = .int .i64 k ∧ Hid (validL none ps = validL (pvN ps k) (ps.drop k)) ∧ Hid (Asc ps k) ∧ Below w.heap.size w wr) (fun i _ => ps.length - (intOf i).toNat)
  case atStart => exact ⟨0, Nat.zero_le _, Nat.zero_le _, rfl, Lib.hid rfl, Lib.hid (fun j x q h => by omega), Below.refl _ _⟩
  case round =>
    obtain ⟨k, hk, hk16, rfl, HI, HQ, b2⟩ := hrel
    by_cases hlt : k < ps.length
    · obtain ⟨p, hp⟩ : ∃ p, ps[k]? = some p := ⟨_, List.getElem?_eq_getElem hlt⟩
      obtain ⟨a, rfl, q0, q1, q2, q3, q4⟩ := HC.out k p hp
      have hns := HS.out p (List.mem_of_getElem? hp)
      have hdk : ps.drop k = p :: ps.drop (k + 1) := by rw [List.drop_eq_getElem_cons hlt]; congr 1; rw [List.getElem?_eq_getElem hlt] at hp; injection hp
      have p0 := cell_below b2 (World.block_lt_of_cell? w _ q0) q0
      have p1 := cell_below b2 (World.block_lt_of_cell? w _ q1) q1
      have p2 := cell_below b2 (World.block_lt_of_cell? w _ q2) q2
      have p3 := cell_below b2 (World.block_lt_of_cell? w _ q3) q3
      have p4 := cell_below b2 (World.block_lt_of_cell? w _ q4) q4
      have HDK := Lib.hid hdk
      have HP := Lib.hid hp
      have HN := Lib.hid hns
      have HLT := Lib.hid hlt
      have b3 := b2.alloc b2.size (.cells #[.string p.nm, .int .i64 p.k, .int .i64 p.n, .string p.t, .float .f64 p.r] 59)
      obtain ⟨W, hW⟩ : ∃ W, W = wr.alloc (.cells #[.string p.nm, .int .i64 p.k, .int .i64 p.n, .string p.t, .float .f64 p.r] 59) := ⟨_, rfl⟩
      have z0 : W.cell? ⟨wr.heap.size, 0, none⟩ = some (.string p.nm) := by rw [hW]; exact new_cell 0 _ rfl
      have z1 : W.cell? ⟨wr.heap.size, 1, none⟩ = some (.int .i64 p.k) := by rw [hW]; exact new_cell 1 _ rfl
      have z2 : W.cell? ⟨wr.heap.size, 2, none⟩ = some (.int .i64 p.n) := by rw [hW]; exact new_cell 2 _ rfl
      have z3 : W.cell? ⟨wr.heap.size, 3, none⟩ = some (.string p.t) := by rw [hW]; exact new_cell 3 _ rfl
      have z4 : W.cell? ⟨wr.heap.size, 4, none⟩ = some (.float .f64 p.r) := by rw [hW]; exact new_cell 4 _ rfl
      have zb : wr.heap.size < W.heap.size := by rw [hW]; show _ < (Array.push _ _).size; simp
      rw [← hW] at b3
      have HWW := Lib.hid hW
      have HZB := Lib.hid zb
      have hkI : (k : Int) ≤ 16 := by omega
      clear hp hdk q0 q1 q2 q3 q4 hW zb hns hlt
      go_upto_region 4 with fail
      rw [← HWW.out]
      have HNM := Lib.hid (refName_c (w := W) p.nm HN.out.1)
      cases hnm : nameB p.nm with
      | false =>
        have hvf : vb = false := by rw [HV.out]; unfold validB; rw [HI.out, HDK.out]; cases pvN ps k <;> (simp [validL, hnm])
        rw [hnm] at HNM
        subst hvf
        go_wp2_with fail
        refine (HNM.out).mono ?_
        rintro e w1 ⟨rfl, rfl⟩
        go_wp2_with fail
        go_ret
        exact ⟨rfl, b3⟩
      | true =>
        rw [hnm] at HNM
        have HGD := Lib.hid (refGood_c (w := W) p.k p.n p.t p.r HN.out.2)
        cases hgd : goodB p.k p.n p.t p.r with
        | false =>
          have hgd' : p.good = false := hgd
          have hvf : vb = false := by rw [HV.out]; unfold validB; rw [HI.out, HDK.out]; cases pvN ps k <;> (simp [validL, hnm, hgd'])
          rw [hgd] at HGD
          subst hvf
          clear hgd hgd' hnm
          go_wp2_with fail
          refine (HNM.out).mono ?_
          rintro e w1 ⟨rfl, rfl⟩
          go_wp2_with fail
          refine (HGD.out).mono ?_
          rintro e w1 ⟨rfl, b4⟩
          go_wp2_with fail
          go_ret
          exact ⟨rfl, b3.trans (b4.mono b3.size)⟩
        | true =>
          rw [hgd] at HGD
          have hgd' : p.good = true := hgd
          have HNX : Hid (LessAll ps k p → validL none ps = validL (pvN ps (k + 1)) (ps.drop (k + 1))) := Lib.hid (fun hL => valid_on HI.out HDK.out HP.out hnm hgd' hL)
          clear hgd hgd' hnm
          go_wp2_with fail
          refine (HNM.out).mono ?_
          rintro e w1 ⟨rfl, rfl⟩
          go_wp2_with fail
          refine (HGD.out).mono ?_
          rintro e w1 ⟨rfl, b4⟩
          have B4 := b3.trans (b4.mono b3.size)
          have y0 := cell_below b4 (World.block_lt_of_cell? W _ z0) z0
          clear z0 z1 z2 z3 z4 p0 p1 p2 p3 p4 HNM HGD b3 b4
          go_wp2_with fail
          obtain ⟨wL, hwL⟩ : ∃ wL, wL = w1 := ⟨_, rfl⟩
          have HWL := Lib.hid hwL
          clear hwL
          go_loopw [5] (fun i wx => ∃ m : Nat, m ≤ k ∧ i = .int .i64 m ∧ Hid (LessAll ps m p) ∧ Below wL.heap.size wL wx) (fun i _ => k - (intOf i).toNat)
          case atStart => exact ⟨0, Nat.zero_le _, rfl, Lib.hid (fun j x h => by omega), by rw [HWL.out]; exact Below.refl _ _⟩
          case round =>
            obtain ⟨m, hm, rfl, HL, b5⟩ := hrel
            have b5' : Below w1.heap.size w1 wr := by have h := b5; rw [HWL.out] at h; exact h
            have B5 := B4.trans (b5'.mono B4.size)
            by_cases hlt2 : m < k
            · have hml : m < ps.length := by have := HLT.out; omega
              obtain ⟨x, hx⟩ : ∃ x, ps[m]? = some x := ⟨_, List.getElem?_eq_getElem hml⟩
              obtain ⟨a', ha', g0, _, _, _, _⟩ := HC.out m x hx
              injection ha' with ha'
              subst ha'
              have g1 := cell_below B5 (World.block_lt_of_cell? w _ g0) g0
              have y1 := cell_below b5' (World.block_lt_of_cell? w1 _ y0) y0
              have hmI : (m : Int) < k := by omega
              have hmL : (m : Int) < ps.length := by omega
              have hmK : (m : Int) ≤ 16 := by omega
              have HX := Lib.hid hx
              have HLT2 := Lib.hid hlt2
              clear hx g0 hml hlt2
              cases hls : Go.Op.bytesLess x.nm.toList p.nm.toList with
              | false =>
                have hvf : vb = false := by rw [HV.out]; exact valid_stop HI.out HQ.out HDK.out HLT.out HLT2.out HX.out hls
                subst hvf
                go_wp2_with fail
                go_quiet (fail)
                go_wp2
                go_ret
                exact ⟨rfl, B5.trans ((below_drewN _ _).mono B5.size)⟩
              | true =>
                go_wp2_with fail
                go_quiet (fail)
                go_wp2
                go_roundw
                case rel => exact ⟨m + 1, by have := HLT2.out; omega, by go_num, Lib.hid (less_succ HL.out HX.out hls), b5.trans ((below_drewN _ _).mono b5.size)⟩
                case measure => have := HLT2.out; simp [intOf]; omega
            · obtain rfl : m = k := by omega
              by_cases h16 : m = 16
              · have hvf : vb = false := by
                  rw [HV.out]
                  unfold validB
                  rw [decide_eq_false (by have := HLT.out; omega), Bool.and_false]
                subst hvf h16
                clear hlt2
                go_wp2_with fail
                go_ret
                exact ⟨rfl, B5⟩
              · have h16' : (m : Int) < 16 := by omega
                have H16 := Lib.hid (show m + 1 ≤ 16 by omega)
                have hwk : wrap64 ((m : Int) + 1) = (m : Int) + 1 := by unfold wrap64; omega
                clear hlt2 h16
                go_wp2_with fail
                go_roundw
                case rel => exact ⟨m + 1, HLT.out, H16.out, by go_num, Lib.hid (HNX.out HL.out), Lib.hid (asc_succ HP.out HL.out), B5⟩
                case measure => have := HLT.out; simp [intOf]; omega
    · have hk2 : k = ps.length := by omega
      subst hk2
      have hvt : vb = true := by rw [HV.out]; unfold validB; rw [HI.out, List.drop_length, decide_eq_true hk16]; cases pvN ps ps.length <;> rfl
      subst hvt
      clear hlt
      go_wp2_with fail
      go_ret
      exact ⟨by first | rfl | (simp; omega), b2⟩
end Go.Proofs.YtbniandbmabdbaaDoor
