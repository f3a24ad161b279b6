/- Layer 16: ReadHead. -/
import Derived.Test.YtbniandbmabdbaaDoorAhB
import Derived.BigQuiet
import Derived.Deep.QuietTactic
import Derived.Deep.DeepCutAuto
import Derived.Deep.CutRange
namespace Go.Proofs.YtbniandbmabdbaaDoor
open Go Go.RowKit
set_option linter.unusedSimpArgs false
set_option linter.unusedVariables false

theorem flags_all : (List.range 65536).all (fun f => decide (bits BinOp.andNot IntKind.i64 ((f : Nat) : Int) 12288 = 0) == (decide (f = 0) || decide (f = 4096) || decide (f = 8192) || decide (f = 12288))) = true := by decide +kernel
theorem flags_no {f : Nat} (hf : f < 65536) (h0 : f ≠ 0) (h1 : f ≠ 4096) (h2 : f ≠ 8192) (h3 : f ≠ 12288) : ¬ bits BinOp.andNot IntKind.i64 ((f : Nat) : Int) 12288 = 0 := by
  have h := List.all_eq_true.1 flags_all f (List.mem_range.2 hf)
  intro e
  rw [decide_eq_true e, decide_eq_false h0, decide_eq_false h1, decide_eq_false h2, decide_eq_false h3] at h
  cases h
theorem fld_lt (s : ByteArray) (a b : Nat) : fld s a b < 256 ^ (b - a) := by
  refine Nat.lt_of_lt_of_le (natB_lt _) (Nat.pow_le_pow_right (by decide) ?_)
  rw [ba_size, ByteArray.size_extract]
  omega
theorem size_z {n : Nat} (h : n < 18446744073709551616) : (n ≤ 1024 → wrap64 (n : Int) = n) ∧ (¬ n ≤ 1024 → wrap64 (n : Int) < 0 ∨ 1024 < wrap64 (n : Int)) := by
  unfold wrap64
  omega
theorem ext_one {r : ByteArray} (h : r.size = 1) : r.extract 0 1 = r := by
  apply ba_ext
  rw [ba_extract, List.drop_zero, List.take_of_length_le (by rw [ba_size]; omega)]
theorem ext_all {r : ByteArray} (h : r.size = 1) : r.extract 1 r.size = ByteArray.empty := ba_nil (by rw [ByteArray.size_extract]; omega)
theorem take_suffix {n : Nat} {s x r : ByteArray} (h : takeP n s = some (x, r)) : r = s.extract (s.size - r.size) s.size := by
  have hs := takeP_size h
  unfold takeP at h
  split at h
  · injection h with h
    injection h with h1 h2
    rw [show s.size - r.size = n by omega]
    exact h2.symm
  · cases h
theorem table_suffix {s r : ByteArray} {ps : List Prp} (h : tableP s = some (ps, r)) : r = s.extract (s.size - r.size) s.size := by
  unfold tableP at h
  obtain ⟨p, h1, h2⟩ := Option.bind_eq_some_iff.1 h
  obtain ⟨x, y⟩ := p
  obtain ⟨l, _, h3⟩ := Option.map_eq_some_iff.1 h2
  injection h3 with _ h3
  dsimp only at h3
  subst h3
  unfold longP numP at h1
  obtain ⟨q, h4, h5⟩ := Option.bind_eq_some_iff.1 h1
  obtain ⟨q1, h6, h7⟩ := Option.map_eq_some_iff.1 h4
  obtain ⟨a, b⟩ := q1
  obtain ⟨n, c⟩ := q
  injection h7 with h7 h8
  dsimp only at h8 h5
  subst h8
  have e1 := take_suffix h6
  have e2 := take_suffix h5
  have s1 := (takeP_size h6).2
  have s2 := (takeP_size h5).2
  have key : y.data.toList = (s.extract (s.size - y.size) s.size).data.toList := by
    rw [ba_extract, List.take_of_length_le (by rw [ba_size]; omega)]
    have k1 : b.data.toList = s.data.toList.drop (s.size - b.size) := by
      have := congrArg (fun z : ByteArray => z.data.toList) e1
      rw [ba_extract, List.take_of_length_le (by rw [ba_size]; omega)] at this
      exact this
    have k2 : y.data.toList = b.data.toList.drop (b.size - y.size) := by
      have := congrArg (fun z : ByteArray => z.data.toList) e2
      rw [ba_extract, List.take_of_length_le (by rw [ba_size]; omega)] at this
      exact this
    rw [k2, k1, List.drop_drop]
    congr 1
    omega
  exact ba_ext key


theorem rh2_p {n f : Nat} {ps : List Prp} {r : ByteArray} (hf : ¬ (f = 4096 ∨ f = 12288)) (hr : r.size = 0) (hn : n ≤ 1024) : rh2 n f ps r = .ok n ps false := by unfold rh2; rw [if_neg hf, if_pos hr, if_pos hn]
theorem rh2_pbig {n f : Nat} {ps : List Prp} {r : ByteArray} (hf : ¬ (f = 4096 ∨ f = 12288)) (hr : r.size = 0) (hn : ¬ n ≤ 1024) : rh2 n f ps r = .err 3 := by unfold rh2; rw [if_neg hf, if_pos hr, if_neg hn]
theorem rh2_pbad {n f : Nat} {ps : List Prp} {r : ByteArray} (hf : ¬ (f = 4096 ∨ f = 12288)) (hr : ¬ r.size = 0) : rh2 n f ps r = .err 11 := by unfold rh2; rw [if_neg hf, if_neg hr]
theorem rh2_mbad {n f : Nat} {ps : List Prp} {r : ByteArray} (hf : f = 4096 ∨ f = 12288) (hr : ¬ (r.size = 1 ∧ (r = ⟨#[1]⟩ ∨ r = ⟨#[2]⟩))) : rh2 n f ps r = .err 11 := by unfold rh2; rw [if_pos hf, if_neg hr]
theorem rh2_m1 {n f : Nat} {ps : List Prp} {r : ByteArray} (hf : f = 4096 ∨ f = 12288) (hr : r.size = 1) (h : r = ⟨#[1]⟩) (hn : n ≤ 1024) : rh2 n f ps r = .ok n ps false := by unfold rh2; rw [if_pos hf, if_pos ⟨hr, .inl h⟩, if_pos hn, h]; rfl
theorem rh2_m2 {n f : Nat} {ps : List Prp} {r : ByteArray} (hf : f = 4096 ∨ f = 12288) (hr : r.size = 1) (h : r = ⟨#[2]⟩) (hn : n ≤ 1024) : rh2 n f ps r = .ok n ps true := by unfold rh2; rw [if_pos hf, if_pos ⟨hr, .inr h⟩, if_pos hn, h]; rfl
theorem rh2_mbig {n f : Nat} {ps : List Prp} {r : ByteArray} (hf : f = 4096 ∨ f = 12288) (hr : r.size = 1) (h : r = ⟨#[1]⟩ ∨ r = ⟨#[2]⟩) (hn : ¬ n ≤ 1024) : rh2 n f ps r = .err 3 := by unfold rh2; rw [if_pos hf, if_pos ⟨hr, h⟩, if_neg hn]

set_option maxRecDepth 1000000 in
set_option maxHeartbeats 1000000 in
theorem rhX_short {w : World} (s : ByteArray) (h0 : s.size < 14) :
    Calls Tryd.prog 16 #[.string s] w (RHPost w (rhP s)) := by
  have hp := Lib.hid (show rhP s = .err 11 by unfold rhP; rw [if_pos h0])
  have h0I : (s.size : Int) < 14 := by omega
  clear h0
  go_enter Tryd.func16, Tryd.ntmps16
  go_wp2_with fail
  exact bodyPost_ret (v := .tuple #[.int .i64 0, .slice none 0 0, .bool false, .int .i64 11]) (by simp [results, Tryd.results16, go_sem]) rfl (rh_err hp.out (Below.refl _ _))
set_option maxRecDepth 1000000 in
set_option maxHeartbeats 1000000 in
theorem rhX_a {w : World} (s : ByteArray) (hsI : (s.size : Int) ≤ 1073741824) (h0I : (14 : Int) ≤ s.size) {x0 x1 x2 x3 r0 : ByteArray} (ex0 : s.extract 0 2 = x0) (ex1 : s.extract 2 4 = x1) (ex2 : s.extract 4 12 = x2) (ex3 : s.extract 12 14 = x3) (er0 : s.extract 14 s.size = r0) (hrs : r0.size ≤ 1073741824) (a : Int) (ha : ¬ a = 60) (Ba : Hid (∀ w : World, Calls Tryd.prog 23 #[.string x0] w fun e w' => e = .returned (.int .i64 (a)) ∧ w = w')) (HP : Hid (rhP s = .err 11)) :
    Calls Tryd.prog 16 #[.string s] w (RHPost w (rhP s)) := by
  clear hrs
  go_enter Tryd.func16, Tryd.ntmps16
  go_wp2_with (first | (go_at_call 23; with_reducible refine (Bb.out _).mono ?_; rintro e w1 ⟨rfl, rfl⟩) | (go_at_call 23; with_reducible refine (Ba.out _).mono ?_; rintro e w1 ⟨rfl, rfl⟩))
  exact bodyPost_ret (v := .tuple #[.int .i64 0, .slice none 0 0, .bool false, .int .i64 11]) (by simp [results, Tryd.results16, go_sem]) rfl (rh_err HP.out (Below.refl _ _))
set_option maxRecDepth 1000000 in
set_option maxHeartbeats 1000000 in
theorem rhX_b {w : World} (s : ByteArray) (hsI : (s.size : Int) ≤ 1073741824) (h0I : (14 : Int) ≤ s.size) {x0 x1 x2 x3 r0 : ByteArray} (ex0 : s.extract 0 2 = x0) (ex1 : s.extract 2 4 = x1) (ex2 : s.extract 4 12 = x2) (ex3 : s.extract 12 14 = x3) (er0 : s.extract 14 s.size = r0) (hrs : r0.size ≤ 1073741824) (b : Int) (hb : ¬ b = 0) (Ba : Hid (∀ w : World, Calls Tryd.prog 23 #[.string x0] w fun e w' => e = .returned (.int .i64 (60)) ∧ w = w')) (Bb : Hid (∀ w : World, Calls Tryd.prog 23 #[.string x1] w fun e w' => e = .returned (.int .i64 (b)) ∧ w = w')) (HP : Hid (rhP s = .err 11)) :
    Calls Tryd.prog 16 #[.string s] w (RHPost w (rhP s)) := by
  have hbn : (b != 0) = true := bne_iff_ne.2 hb
  clear hrs
  go_enter Tryd.func16, Tryd.ntmps16
  go_wp2_with (first | (go_at_call 23; with_reducible refine (Bb.out _).mono ?_; rintro e w1 ⟨rfl, rfl⟩) | (go_at_call 23; with_reducible refine (Ba.out _).mono ?_; rintro e w1 ⟨rfl, rfl⟩))
  exact bodyPost_ret (v := .tuple #[.int .i64 0, .slice none 0 0, .bool false, .int .i64 11]) (by simp [results, Tryd.results16, go_sem]) rfl (rh_err HP.out (Below.refl _ _))
set_option maxRecDepth 1000000 in
set_option maxHeartbeats 1000000 in
theorem rhX_0 {w : World} (s : ByteArray) (hsI : (s.size : Int) ≤ 1073741824) (h0I : (14 : Int) ≤ s.size) {x0 x1 x2 x3 r0 : ByteArray} (ex0 : s.extract 0 2 = x0) (ex1 : s.extract 2 4 = x1) (ex2 : s.extract 4 12 = x2) (ex3 : s.extract 12 14 = x3) (er0 : s.extract 14 s.size = r0) (hrs : r0.size ≤ 1073741824) (n : Nat) (z : Int) (HZZ : Hid ((n ≤ 1024 → z = n) ∧ (¬ n ≤ 1024 → z < 0 ∨ 1024 < z))) (Ba : Hid (∀ w : World, Calls Tryd.prog 23 #[.string x0] w fun e w' => e = .returned (.int .i64 (60)) ∧ w = w')) (Bb : Hid (∀ w : World, Calls Tryd.prog 23 #[.string x1] w fun e w' => e = .returned (.int .i64 (0)) ∧ w = w')) (Bn : Hid (∀ w : World, Calls Tryd.prog 23 #[.string x2] w fun e w' => e = .returned (.int .i64 (z)) ∧ w' = w)) (Bf : Hid (∀ w : World, Calls Tryd.prog 23 #[.string x3] w fun e w' => e = .returned (.int .i64 (0)) ∧ w' = w)) (hp : rhP s = rh2 n 0 [] r0) :
    Calls Tryd.prog 16 #[.string s] w (RHPost w (rhP s)) := by
  have hand : bits BinOp.andNot IntKind.i64 0 12288 = 0 := by kernel_rfl
  have hand2 : bits BinOp.and IntKind.i64 0 8192 = 0 := by kernel_rfl
  have hand3 : bits BinOp.and IntKind.i64 0 4096 = 0 := by kernel_rfl
  have HRS := Lib.hid hrs
  clear hrs
  go_enter Tryd.func16, Tryd.ntmps16
  go_upto_region 3 with (first | (go_at_call 23; with_reducible refine (Bb.out _).mono ?_; rintro e w1 ⟨rfl, rfl⟩) | (go_at_call 23; with_reducible refine (Ba.out _).mono ?_; rintro e w1 ⟨rfl, rfl⟩))
  go_quiet ((first | (go_at_call 23; with_reducible exact Calls.quiet_of_same (Bf.out _)) | (go_at_call 23; with_reducible exact Calls.quiet_of_same (Bn.out _))))
  by_cases hr0 : r0.size = 0
  · obtain rfl := ba_nil hr0
    by_cases hn : n ≤ 1024
    · have hzn := HZZ.out.1 hn
      have HP := Lib.hid (hp.trans (rh2_p (by decide) rfl hn))
      have z0 : 0 ≤ z := by omega
      have z1 : z ≤ 1024 := by omega
      have HZN := Lib.hid hzn
      clear hn hp hzn
      go_wp2_with fail
      exact bodyPost_ret (v := .tuple #[.int .i64 z, .slice none 0 0, .bool false, .int .i64 0]) (by simp [results, Tryd.results16, go_sem]) rfl (by rw [HZN.out]; exact rh_ok HP.out (below_drewN w _) (.inl ⟨rfl, rfl⟩))
    · have hzn := HZZ.out.2 hn
      have HP := Lib.hid (hp.trans (rh2_pbig (by decide) rfl hn))
      clear hn hp
      rcases hzn with hzn | hzn
      · go_wp2_with fail
        exact bodyPost_ret (v := .tuple #[.int .i64 0, .slice none 0 0, .bool false, .int .i64 3]) (by simp [results, Tryd.results16, go_sem]) rfl (rh_err HP.out (below_drewN w _))
      · have hzn0 : 0 ≤ z := by omega
        go_wp2_with fail
        exact bodyPost_ret (v := .tuple #[.int .i64 0, .slice none 0 0, .bool false, .int .i64 3]) (by simp [results, Tryd.results16, go_sem]) rfl (rh_err HP.out (below_drewN w _))
  · have HP := Lib.hid (hp.trans (rh2_pbad (by decide) hr0))
    have hE := ne_nil r0 (by omega)
    clear hr0 hp
    go_wp2_with fail
    exact bodyPost_ret (v := .tuple #[.int .i64 0, .slice none 0 0, .bool false, .int .i64 11]) (by simp [results, Tryd.results16, go_sem]) rfl (rh_err HP.out (below_drewN w _))
set_option maxRecDepth 1000000 in
set_option maxHeartbeats 1000000 in
theorem rhX_4096 {w : World} (s : ByteArray) (hsI : (s.size : Int) ≤ 1073741824) (h0I : (14 : Int) ≤ s.size) {x0 x1 x2 x3 r0 : ByteArray} (ex0 : s.extract 0 2 = x0) (ex1 : s.extract 2 4 = x1) (ex2 : s.extract 4 12 = x2) (ex3 : s.extract 12 14 = x3) (er0 : s.extract 14 s.size = r0) (hrs : r0.size ≤ 1073741824) (n : Nat) (z : Int) (HZZ : Hid ((n ≤ 1024 → z = n) ∧ (¬ n ≤ 1024 → z < 0 ∨ 1024 < z))) (Ba : Hid (∀ w : World, Calls Tryd.prog 23 #[.string x0] w fun e w' => e = .returned (.int .i64 (60)) ∧ w = w')) (Bb : Hid (∀ w : World, Calls Tryd.prog 23 #[.string x1] w fun e w' => e = .returned (.int .i64 (0)) ∧ w = w')) (Bn : Hid (∀ w : World, Calls Tryd.prog 23 #[.string x2] w fun e w' => e = .returned (.int .i64 (z)) ∧ w' = w)) (Bf : Hid (∀ w : World, Calls Tryd.prog 23 #[.string x3] w fun e w' => e = .returned (.int .i64 (4096)) ∧ w' = w)) (hp : rhP s = rh2 n 4096 [] r0) :
    Calls Tryd.prog 16 #[.string s] w (RHPost w (rhP s)) := by
  have hand : bits BinOp.andNot IntKind.i64 4096 12288 = 0 := by kernel_rfl
  have hand2 : bits BinOp.and IntKind.i64 4096 8192 = 0 := by kernel_rfl
  have hand3 : bits BinOp.and IntKind.i64 4096 4096 = 4096 := by kernel_rfl
  have HRS := Lib.hid hrs
  clear hrs
  go_enter Tryd.func16, Tryd.ntmps16
  go_upto_region 3 with (first | (go_at_call 23; with_reducible refine (Bb.out _).mono ?_; rintro e w1 ⟨rfl, rfl⟩) | (go_at_call 23; with_reducible refine (Ba.out _).mono ?_; rintro e w1 ⟨rfl, rfl⟩))
  go_quiet ((first | (go_at_call 23; with_reducible exact Calls.quiet_of_same (Bf.out _)) | (go_at_call 23; with_reducible exact Calls.quiet_of_same (Bn.out _))))
  by_cases hr0 : r0.size = 0
  · have HP := Lib.hid (hp.trans (rh2_mbad (by decide) (by omega)))
    obtain rfl := ba_nil hr0
    have e00 : ByteArray.empty.extract (min (1 : Int) 0).toNat 0 = ByteArray.empty := by rfl
    have e01 : ByteArray.empty.extract 0 (min (1 : Int) 0).toNat = ByteArray.empty := by rfl
    have hmin : min (1 : Int) 0 = 0 := by decide
    clear hr0 hp
    go_wp2_with fail
    go_quiet (fail)
    go_wp2_with fail
    exact bodyPost_ret (v := .tuple #[.int .i64 0, .slice none 0 0, .bool false, .int .i64 11]) (by simp [results, Tryd.results16, go_sem]) rfl (rh_err HP.out (below_drewN w _))
  have hrI : (1 : Int) ≤ r0.size := by omega
  have hrJ : (r0.size : Int) ≤ 1073741824 := by have := HRS.out; omega
  have hmin : min (1 : Int) (r0.size : Int) = 1 := by omega
  have hmin2 : min 1 r0.size = 1 := by omega
  obtain ⟨y1, hy1⟩ : ∃ y, r0.extract 0 1 = y := ⟨_, rfl⟩
  obtain ⟨y2, hy2⟩ : ∃ y, r0.extract 1 r0.size = y := ⟨_, rfl⟩
  by_cases hr1 : ¬ r0.size = 1
  · have HP := Lib.hid (hp.trans (rh2_mbad (by decide) (fun h => hr1 h.1)))
    have hE := ne_nil y2 (by rw [← hy2, ByteArray.size_extract]; omega)
    clear hr0 hr1 hp
    go_wp2_with fail
    go_quiet (fail)
    go_wp2_with fail
    exact bodyPost_ret (v := .tuple #[.int .i64 0, .slice none 0 0, .bool false, .int .i64 11]) (by simp [results, Tryd.results16, go_sem]) rfl (rh_err HP.out (below_drewN w _))
  replace hr1 := Decidable.of_not_not hr1
  obtain rfl : y2 = ByteArray.empty := by rw [← hy2]; exact ext_all hr1
  have hyr : y1 = r0 := by rw [← hy1]; exact ext_one hr1
  by_cases hm1 : r0 = ⟨#[1]⟩
  · have hy3 : y1 = ⟨#[1]⟩ := hyr.trans hm1
    subst hy3
    have HR1 := Lib.hid hr1
    have HMM := Lib.hid hm1
    clear hyr hr0 hr1 hm1
    go_wp2_with fail
    go_quiet (fail)
    by_cases hn : n ≤ 1024
    · have hzn := HZZ.out.1 hn
      have HP := Lib.hid (hp.trans (rh2_m1 (by decide) HR1.out HMM.out hn))
      have z0 : 0 ≤ z := by omega
      have z1 : z ≤ 1024 := by omega
      have HZN := Lib.hid hzn
      clear hn hp hzn
      go_wp2_with fail
      exact bodyPost_ret (v := .tuple #[.int .i64 z, .slice none 0 0, .bool false, .int .i64 0]) (by simp [results, Tryd.results16, go_sem]) rfl (by rw [HZN.out]; exact rh_ok HP.out (below_drewN w _) (.inl ⟨rfl, rfl⟩))
    · have hzn := HZZ.out.2 hn
      have HP := Lib.hid (hp.trans (rh2_mbig (by decide) HR1.out (.inl HMM.out) hn))
      clear hn hp
      rcases hzn with hzn | hzn
      · go_wp2_with fail
        exact bodyPost_ret (v := .tuple #[.int .i64 0, .slice none 0 0, .bool false, .int .i64 3]) (by simp [results, Tryd.results16, go_sem]) rfl (rh_err HP.out (below_drewN w _))
      · have hzn0 : 0 ≤ z := by omega
        go_wp2_with fail
        exact bodyPost_ret (v := .tuple #[.int .i64 0, .slice none 0 0, .bool false, .int .i64 3]) (by simp [results, Tryd.results16, go_sem]) rfl (rh_err HP.out (below_drewN w _))
  by_cases hm2 : r0 = ⟨#[2]⟩
  · have hy3 : y1 = ⟨#[2]⟩ := hyr.trans hm2
    subst hy3
    have HR1 := Lib.hid hr1
    have HMM := Lib.hid hm2
    clear hyr hr0 hr1 hm2 hm1
    go_wp2_with fail
    go_quiet (fail)
    by_cases hn : n ≤ 1024
    · have hzn := HZZ.out.1 hn
      have HP := Lib.hid (hp.trans (rh2_m2 (by decide) HR1.out HMM.out hn))
      have z0 : 0 ≤ z := by omega
      have z1 : z ≤ 1024 := by omega
      have HZN := Lib.hid hzn
      clear hn hp hzn
      go_wp2_with fail
      exact bodyPost_ret (v := .tuple #[.int .i64 z, .slice none 0 0, .bool true, .int .i64 0]) (by simp [results, Tryd.results16, go_sem]) rfl (by rw [HZN.out]; exact rh_ok HP.out (below_drewN w _) (.inl ⟨rfl, rfl⟩))
    · have hzn := HZZ.out.2 hn
      have HP := Lib.hid (hp.trans (rh2_mbig (by decide) HR1.out (.inr HMM.out) hn))
      clear hn hp
      rcases hzn with hzn | hzn
      · go_wp2_with fail
        exact bodyPost_ret (v := .tuple #[.int .i64 0, .slice none 0 0, .bool false, .int .i64 3]) (by simp [results, Tryd.results16, go_sem]) rfl (rh_err HP.out (below_drewN w _))
      · have hzn0 : 0 ≤ z := by omega
        go_wp2_with fail
        exact bodyPost_ret (v := .tuple #[.int .i64 0, .slice none 0 0, .bool false, .int .i64 3]) (by simp [results, Tryd.results16, go_sem]) rfl (rh_err HP.out (below_drewN w _))
  have HP := Lib.hid (hp.trans (rh2_mbad (by decide) (fun h => h.2.elim hm1 hm2)))
  rw [hyr] at hy1
  have hb1 : (r0.toList == [1]) = false := str_bne (l := [1]) hm1
  have hb2 : (r0.toList == [2]) = false := str_bne (l := [2]) hm2
  clear hr0 hr1 hp hm1 hm2 hyr
  go_wp2_with fail
  go_quiet (fail)
  go_wp2_with fail
  exact bodyPost_ret (v := .tuple #[.int .i64 0, .slice none 0 0, .bool false, .int .i64 11]) (by simp [results, Tryd.results16, go_sem]) rfl (rh_err HP.out (below_drewN w _))
set_option maxRecDepth 1000000 in
set_option maxHeartbeats 1000000 in
theorem rhX_8192n {w : World} (s : ByteArray) (hsI : (s.size : Int) ≤ 1073741824) (h0I : (14 : Int) ≤ s.size) {x0 x1 x2 x3 r0 : ByteArray} (ex0 : s.extract 0 2 = x0) (ex1 : s.extract 2 4 = x1) (ex2 : s.extract 4 12 = x2) (ex3 : s.extract 12 14 = x3) (er0 : s.extract 14 s.size = r0) (hrs : r0.size ≤ 1073741824) (n : Nat) (z : Int) (HZZ : Hid ((n ≤ 1024 → z = n) ∧ (¬ n ≤ 1024 → z < 0 ∨ 1024 < z))) (Ba : Hid (∀ w : World, Calls Tryd.prog 23 #[.string x0] w fun e w' => e = .returned (.int .i64 (60)) ∧ w = w')) (Bb : Hid (∀ w : World, Calls Tryd.prog 23 #[.string x1] w fun e w' => e = .returned (.int .i64 (0)) ∧ w = w')) (Bn : Hid (∀ w : World, Calls Tryd.prog 23 #[.string x2] w fun e w' => e = .returned (.int .i64 (z)) ∧ w' = w)) (Bf : Hid (∀ w : World, Calls Tryd.prog 23 #[.string x3] w fun e w' => e = .returned (.int .i64 (8192)) ∧ w' = w)) (ho : tableP r0 = none) (HP : Hid (rhP s = .err 11)) :
    Calls Tryd.prog 16 #[.string s] w (RHPost w (rhP s)) := by
  have hand : bits BinOp.andNot IntKind.i64 8192 12288 = 0 := by kernel_rfl
  have hand2 : bits BinOp.and IntKind.i64 8192 8192 = 8192 := by kernel_rfl
  have hand3 : bits BinOp.and IntKind.i64 8192 4096 = 0 := by kernel_rfl
  have HRS := Lib.hid hrs
  go_enter Tryd.func16, Tryd.ntmps16
  go_upto_region 3 with (first | (go_at_call 23; with_reducible refine (Bb.out _).mono ?_; rintro e w1 ⟨rfl, rfl⟩) | (go_at_call 23; with_reducible refine (Ba.out _).mono ?_; rintro e w1 ⟨rfl, rfl⟩))
  go_quiet ((first | (go_at_call 23; with_reducible exact Calls.quiet_of_same (Bf.out _)) | (go_at_call 23; with_reducible exact Calls.quiet_of_same (Bn.out _))))
  have BQ := below_drewN w nq
  have hT2 := tTake_c (w := w.drewN nq) r0 hrs
  unfold TakePost at hT2
  rw [ho] at hT2
  have HT := Lib.hid hT2
  clear hT2 hrs
  clear ho
  go_wp2_with fail
  refine (HT.out).mono ?_
  rintro e w1 ⟨b1, rfl⟩
  go_wp2_with fail
  exact bodyPost_ret (v := .tuple #[.int .i64 0, .slice none 0 0, .bool false, .int .i64 11]) (by simp [results, Tryd.results16, go_sem]) rfl (rh_err HP.out (BQ.trans b1))
set_option maxRecDepth 1000000 in
set_option maxHeartbeats 1000000 in
theorem rhX_8192s {w : World} (s : ByteArray) (hsI : (s.size : Int) ≤ 1073741824) (h0I : (14 : Int) ≤ s.size) {x0 x1 x2 x3 r0 : ByteArray} (ex0 : s.extract 0 2 = x0) (ex1 : s.extract 2 4 = x1) (ex2 : s.extract 4 12 = x2) (ex3 : s.extract 12 14 = x3) (er0 : s.extract 14 s.size = r0) (hrs : r0.size ≤ 1073741824) (n : Nat) (z : Int) (HZZ : Hid ((n ≤ 1024 → z = n) ∧ (¬ n ≤ 1024 → z < 0 ∨ 1024 < z))) (Ba : Hid (∀ w : World, Calls Tryd.prog 23 #[.string x0] w fun e w' => e = .returned (.int .i64 (60)) ∧ w = w')) (Bb : Hid (∀ w : World, Calls Tryd.prog 23 #[.string x1] w fun e w' => e = .returned (.int .i64 (0)) ∧ w = w')) (Bn : Hid (∀ w : World, Calls Tryd.prog 23 #[.string x2] w fun e w' => e = .returned (.int .i64 (z)) ∧ w' = w)) (Bf : Hid (∀ w : World, Calls Tryd.prog 23 #[.string x3] w fun e w' => e = .returned (.int .i64 (8192)) ∧ w' = w)) {ps : List Prp} {r : ByteArray} (ho : tableP r0 = some (ps, r)) (hp : rhP s = rh2 n 8192 ps r) :
    Calls Tryd.prog 16 #[.string s] w (RHPost w (rhP s)) := by
  have hand : bits BinOp.andNot IntKind.i64 8192 12288 = 0 := by kernel_rfl
  have hand2 : bits BinOp.and IntKind.i64 8192 8192 = 8192 := by kernel_rfl
  have hand3 : bits BinOp.and IntKind.i64 8192 4096 = 0 := by kernel_rfl
  have HRS := Lib.hid hrs
  go_enter Tryd.func16, Tryd.ntmps16
  go_upto_region 3 with (first | (go_at_call 23; with_reducible refine (Bb.out _).mono ?_; rintro e w1 ⟨rfl, rfl⟩) | (go_at_call 23; with_reducible refine (Ba.out _).mono ?_; rintro e w1 ⟨rfl, rfl⟩))
  go_quiet ((first | (go_at_call 23; with_reducible exact Calls.quiet_of_same (Bf.out _)) | (go_at_call 23; with_reducible exact Calls.quiet_of_same (Bn.out _))))
  have BQ := below_drewN w nq
  have hT2 := tTake_c (w := w.drewN nq) r0 hrs
  unfold TakePost at hT2
  rw [ho] at hT2
  dsimp only at hT2
  have HT := Lib.hid hT2
  have hsf := table_suffix ho
  have hrz := tableP_size ho
  replace HRS := Lib.hid (show r.size ≤ 1073741824 by omega)
  have hri0 : (0 : Int) ≤ (r0.size : Int) - r.size := by omega
  have hri1 : (r0.size : Int) - r.size ≤ r0.size := by omega
  have hrn : ((r0.size : Int) - r.size).toNat = r0.size - r.size := by omega
  have hsx : r0.extract (r0.size - r.size) r0.size = r := hsf.symm
  have hrK : (r0.size : Int) ≤ 1073741824 := by omega
  clear hT2 hrs hsf hrz ho
  go_wp2_with fail
  refine (HT.out).mono ?_
  rintro e w1 ⟨b1, v, rfl, hv⟩
  have B1 := BQ.trans b1
  have OV : OwnP w1 w.heap.size v ps := hv
  go_wp2_with fail
  go_quiet (fail)
  clear hri0 hri1 hrn hsx hrK
  by_cases hr0 : r.size = 0
  · obtain rfl := ba_nil hr0
    by_cases hn : n ≤ 1024
    · have hzn := HZZ.out.1 hn
      have HP := Lib.hid (hp.trans (rh2_p (by decide) rfl hn))
      have z0 : 0 ≤ z := by omega
      have z1 : z ≤ 1024 := by omega
      have HZN := Lib.hid hzn
      clear hn hp hzn
      go_wp2_with fail
      exact bodyPost_ret (v := .tuple #[.int .i64 z, v, .bool false, .int .i64 0]) (by simp [results, Tryd.results16, go_sem]) rfl (by rw [HZN.out]; exact rh_ok HP.out (B1.trans ((below_drewN w1 _).mono B1.size)) (ownP_below OV (below_drewN _ _)))
    · have hzn := HZZ.out.2 hn
      have HP := Lib.hid (hp.trans (rh2_pbig (by decide) rfl hn))
      clear hn hp
      rcases hzn with hzn | hzn
      · go_wp2_with fail
        exact bodyPost_ret (v := .tuple #[.int .i64 0, .slice none 0 0, .bool false, .int .i64 3]) (by simp [results, Tryd.results16, go_sem]) rfl (rh_err HP.out (B1.trans ((below_drewN w1 _).mono B1.size)))
      · have hzn0 : 0 ≤ z := by omega
        go_wp2_with fail
        exact bodyPost_ret (v := .tuple #[.int .i64 0, .slice none 0 0, .bool false, .int .i64 3]) (by simp [results, Tryd.results16, go_sem]) rfl (rh_err HP.out (B1.trans ((below_drewN w1 _).mono B1.size)))
  · have HP := Lib.hid (hp.trans (rh2_pbad (by decide) hr0))
    have hE := ne_nil r (by omega)
    clear hr0 hp
    go_wp2_with fail
    exact bodyPost_ret (v := .tuple #[.int .i64 0, .slice none 0 0, .bool false, .int .i64 11]) (by simp [results, Tryd.results16, go_sem]) rfl (rh_err HP.out (B1.trans ((below_drewN w1 _).mono B1.size)))
set_option maxRecDepth 1000000 in
set_option maxHeartbeats 1000000 in
theorem rhX_12288n {w : World} (s : ByteArray) (hsI : (s.size : Int) ≤ 1073741824) (h0I : (14 : Int) ≤ s.size) {x0 x1 x2 x3 r0 : ByteArray} (ex0 : s.extract 0 2 = x0) (ex1 : s.extract 2 4 = x1) (ex2 : s.extract 4 12 = x2) (ex3 : s.extract 12 14 = x3) (er0 : s.extract 14 s.size = r0) (hrs : r0.size ≤ 1073741824) (n : Nat) (z : Int) (HZZ : Hid ((n ≤ 1024 → z = n) ∧ (¬ n ≤ 1024 → z < 0 ∨ 1024 < z))) (Ba : Hid (∀ w : World, Calls Tryd.prog 23 #[.string x0] w fun e w' => e = .returned (.int .i64 (60)) ∧ w = w')) (Bb : Hid (∀ w : World, Calls Tryd.prog 23 #[.string x1] w fun e w' => e = .returned (.int .i64 (0)) ∧ w = w')) (Bn : Hid (∀ w : World, Calls Tryd.prog 23 #[.string x2] w fun e w' => e = .returned (.int .i64 (z)) ∧ w' = w)) (Bf : Hid (∀ w : World, Calls Tryd.prog 23 #[.string x3] w fun e w' => e = .returned (.int .i64 (12288)) ∧ w' = w)) (ho : tableP r0 = none) (HP : Hid (rhP s = .err 11)) :
    Calls Tryd.prog 16 #[.string s] w (RHPost w (rhP s)) := by
  have hand : bits BinOp.andNot IntKind.i64 12288 12288 = 0 := by kernel_rfl
  have hand2 : bits BinOp.and IntKind.i64 12288 8192 = 8192 := by kernel_rfl
  have hand3 : bits BinOp.and IntKind.i64 12288 4096 = 4096 := by kernel_rfl
  have HRS := Lib.hid hrs
  go_enter Tryd.func16, Tryd.ntmps16
  go_upto_region 3 with (first | (go_at_call 23; with_reducible refine (Bb.out _).mono ?_; rintro e w1 ⟨rfl, rfl⟩) | (go_at_call 23; with_reducible refine (Ba.out _).mono ?_; rintro e w1 ⟨rfl, rfl⟩))
  go_quiet ((first | (go_at_call 23; with_reducible exact Calls.quiet_of_same (Bf.out _)) | (go_at_call 23; with_reducible exact Calls.quiet_of_same (Bn.out _))))
  have BQ := below_drewN w nq
  have hT2 := tTake_c (w := w.drewN nq) r0 hrs
  unfold TakePost at hT2
  rw [ho] at hT2
  have HT := Lib.hid hT2
  clear hT2 hrs
  clear ho
  go_wp2_with fail
  refine (HT.out).mono ?_
  rintro e w1 ⟨b1, rfl⟩
  go_wp2_with fail
  exact bodyPost_ret (v := .tuple #[.int .i64 0, .slice none 0 0, .bool false, .int .i64 11]) (by simp [results, Tryd.results16, go_sem]) rfl (rh_err HP.out (BQ.trans b1))
set_option maxRecDepth 1000000 in
set_option maxHeartbeats 1000000 in
theorem rhX_12288s {w : World} (s : ByteArray) (hsI : (s.size : Int) ≤ 1073741824) (h0I : (14 : Int) ≤ s.size) {x0 x1 x2 x3 r0 : ByteArray} (ex0 : s.extract 0 2 = x0) (ex1 : s.extract 2 4 = x1) (ex2 : s.extract 4 12 = x2) (ex3 : s.extract 12 14 = x3) (er0 : s.extract 14 s.size = r0) (hrs : r0.size ≤ 1073741824) (n : Nat) (z : Int) (HZZ : Hid ((n ≤ 1024 → z = n) ∧ (¬ n ≤ 1024 → z < 0 ∨ 1024 < z))) (Ba : Hid (∀ w : World, Calls Tryd.prog 23 #[.string x0] w fun e w' => e = .returned (.int .i64 (60)) ∧ w = w')) (Bb : Hid (∀ w : World, Calls Tryd.prog 23 #[.string x1] w fun e w' => e = .returned (.int .i64 (0)) ∧ w = w')) (Bn : Hid (∀ w : World, Calls Tryd.prog 23 #[.string x2] w fun e w' => e = .returned (.int .i64 (z)) ∧ w' = w)) (Bf : Hid (∀ w : World, Calls Tryd.prog 23 #[.string x3] w fun e w' => e = .returned (.int .i64 (12288)) ∧ w' = w)) {ps : List Prp} {r : ByteArray} (ho : tableP r0 = some (ps, r)) (hp : rhP s = rh2 n 12288 ps r) :
    Calls Tryd.prog 16 #[.string s] w (RHPost w (rhP s)) := by
  have hand : bits BinOp.andNot IntKind.i64 12288 12288 = 0 := by kernel_rfl
  have hand2 : bits BinOp.and IntKind.i64 12288 8192 = 8192 := by kernel_rfl
  have hand3 : bits BinOp.and IntKind.i64 12288 4096 = 4096 := by kernel_rfl
  have HRS := Lib.hid hrs
  go_enter Tryd.func16, Tryd.ntmps16
  go_upto_region 3 with (first | (go_at_call 23; with_reducible refine (Bb.out _).mono ?_; rintro e w1 ⟨rfl, rfl⟩) | (go_at_call 23; with_reducible refine (Ba.out _).mono ?_; rintro e w1 ⟨rfl, rfl⟩))
  go_quiet ((first | (go_at_call 23; with_reducible exact Calls.quiet_of_same (Bf.out _)) | (go_at_call 23; with_reducible exact Calls.quiet_of_same (Bn.out _))))
  have BQ := below_drewN w nq
  have hT2 := tTake_c (w := w.drewN nq) r0 hrs
  unfold TakePost at hT2
  rw [ho] at hT2
  dsimp only at hT2
  have HT := Lib.hid hT2
  have hsf := table_suffix ho
  have hrz := tableP_size ho
  replace HRS := Lib.hid (show r.size ≤ 1073741824 by omega)
  have hri0 : (0 : Int) ≤ (r0.size : Int) - r.size := by omega
  have hri1 : (r0.size : Int) - r.size ≤ r0.size := by omega
  have hrn : ((r0.size : Int) - r.size).toNat = r0.size - r.size := by omega
  have hsx : r0.extract (r0.size - r.size) r0.size = r := hsf.symm
  have hrK : (r0.size : Int) ≤ 1073741824 := by omega
  clear hT2 hrs hsf hrz ho
  go_wp2_with fail
  refine (HT.out).mono ?_
  rintro e w1 ⟨b1, v, rfl, hv⟩
  have B1 := BQ.trans b1
  have OV : OwnP w1 w.heap.size v ps := hv
  go_wp2_with fail
  go_quiet (fail)
  clear hri0 hri1 hrn hsx hrK
  by_cases hr0 : r.size = 0
  · have HP := Lib.hid (hp.trans (rh2_mbad (by decide) (by omega)))
    obtain rfl := ba_nil hr0
    have e00 : ByteArray.empty.extract (min (1 : Int) 0).toNat 0 = ByteArray.empty := by rfl
    have e01 : ByteArray.empty.extract 0 (min (1 : Int) 0).toNat = ByteArray.empty := by rfl
    have hmin : min (1 : Int) 0 = 0 := by decide
    clear hr0 hp
    go_wp2_with fail
    go_quiet (fail)
    go_wp2_with fail
    exact bodyPost_ret (v := .tuple #[.int .i64 0, .slice none 0 0, .bool false, .int .i64 11]) (by simp [results, Tryd.results16, go_sem]) rfl (rh_err HP.out (B1.trans ((below_drewN w1 _).mono B1.size)))
  have hrI : (1 : Int) ≤ r.size := by omega
  have hrJ : (r.size : Int) ≤ 1073741824 := by have := HRS.out; omega
  have hmin : min (1 : Int) (r.size : Int) = 1 := by omega
  have hmin2 : min 1 r.size = 1 := by omega
  obtain ⟨y1, hy1⟩ : ∃ y, r.extract 0 1 = y := ⟨_, rfl⟩
  obtain ⟨y2, hy2⟩ : ∃ y, r.extract 1 r.size = y := ⟨_, rfl⟩
  by_cases hr1 : ¬ r.size = 1
  · have HP := Lib.hid (hp.trans (rh2_mbad (by decide) (fun h => hr1 h.1)))
    have hE := ne_nil y2 (by rw [← hy2, ByteArray.size_extract]; omega)
    clear hr0 hr1 hp
    go_wp2_with fail
    go_quiet (fail)
    go_wp2_with fail
    exact bodyPost_ret (v := .tuple #[.int .i64 0, .slice none 0 0, .bool false, .int .i64 11]) (by simp [results, Tryd.results16, go_sem]) rfl (rh_err HP.out (B1.trans ((below_drewN w1 _).mono B1.size)))
  replace hr1 := Decidable.of_not_not hr1
  obtain rfl : y2 = ByteArray.empty := by rw [← hy2]; exact ext_all hr1
  have hyr : y1 = r := by rw [← hy1]; exact ext_one hr1
  by_cases hm1 : r = ⟨#[1]⟩
  · have hy3 : y1 = ⟨#[1]⟩ := hyr.trans hm1
    subst hy3
    have HR1 := Lib.hid hr1
    have HMM := Lib.hid hm1
    clear hyr hr0 hr1 hm1
    go_wp2_with fail
    go_quiet (fail)
    by_cases hn : n ≤ 1024
    · have hzn := HZZ.out.1 hn
      have HP := Lib.hid (hp.trans (rh2_m1 (by decide) HR1.out HMM.out hn))
      have z0 : 0 ≤ z := by omega
      have z1 : z ≤ 1024 := by omega
      have HZN := Lib.hid hzn
      clear hn hp hzn
      go_wp2_with fail
      exact bodyPost_ret (v := .tuple #[.int .i64 z, v, .bool false, .int .i64 0]) (by simp [results, Tryd.results16, go_sem]) rfl (by rw [HZN.out]; exact rh_ok HP.out (B1.trans ((below_drewN w1 _).mono B1.size)) (ownP_below OV (below_drewN _ _)))
    · have hzn := HZZ.out.2 hn
      have HP := Lib.hid (hp.trans (rh2_mbig (by decide) HR1.out (.inl HMM.out) hn))
      clear hn hp
      rcases hzn with hzn | hzn
      · go_wp2_with fail
        exact bodyPost_ret (v := .tuple #[.int .i64 0, .slice none 0 0, .bool false, .int .i64 3]) (by simp [results, Tryd.results16, go_sem]) rfl (rh_err HP.out (B1.trans ((below_drewN w1 _).mono B1.size)))
      · have hzn0 : 0 ≤ z := by omega
        go_wp2_with fail
        exact bodyPost_ret (v := .tuple #[.int .i64 0, .slice none 0 0, .bool false, .int .i64 3]) (by simp [results, Tryd.results16, go_sem]) rfl (rh_err HP.out (B1.trans ((below_drewN w1 _).mono B1.size)))
  by_cases hm2 : r = ⟨#[2]⟩
  · have hy3 : y1 = ⟨#[2]⟩ := hyr.trans hm2
    subst hy3
    have HR1 := Lib.hid hr1
    have HMM := Lib.hid hm2
    clear hyr hr0 hr1 hm2 hm1
    go_wp2_with fail
    go_quiet (fail)
    by_cases hn : n ≤ 1024
    · have hzn := HZZ.out.1 hn
      have HP := Lib.hid (hp.trans (rh2_m2 (by decide) HR1.out HMM.out hn))
      have z0 : 0 ≤ z := by omega
      have z1 : z ≤ 1024 := by omega
      have HZN := Lib.hid hzn
      clear hn hp hzn
      go_wp2_with fail
      exact bodyPost_ret (v := .tuple #[.int .i64 z, v, .bool true, .int .i64 0]) (by simp [results, Tryd.results16, go_sem]) rfl (by rw [HZN.out]; exact rh_ok HP.out (B1.trans ((below_drewN w1 _).mono B1.size)) (ownP_below OV (below_drewN _ _)))
    · have hzn := HZZ.out.2 hn
      have HP := Lib.hid (hp.trans (rh2_mbig (by decide) HR1.out (.inr HMM.out) hn))
      clear hn hp
      rcases hzn with hzn | hzn
      · go_wp2_with fail
        exact bodyPost_ret (v := .tuple #[.int .i64 0, .slice none 0 0, .bool false, .int .i64 3]) (by simp [results, Tryd.results16, go_sem]) rfl (rh_err HP.out (B1.trans ((below_drewN w1 _).mono B1.size)))
      · have hzn0 : 0 ≤ z := by omega
        go_wp2_with fail
        exact bodyPost_ret (v := .tuple #[.int .i64 0, .slice none 0 0, .bool false, .int .i64 3]) (by simp [results, Tryd.results16, go_sem]) rfl (rh_err HP.out (B1.trans ((below_drewN w1 _).mono B1.size)))
  have HP := Lib.hid (hp.trans (rh2_mbad (by decide) (fun h => h.2.elim hm1 hm2)))
  rw [hyr] at hy1
  have hb1 : (r.toList == [1]) = false := str_bne (l := [1]) hm1
  have hb2 : (r.toList == [2]) = false := str_bne (l := [2]) hm2
  clear hr0 hr1 hp hm1 hm2 hyr
  go_wp2_with fail
  go_quiet (fail)
  go_wp2_with fail
  exact bodyPost_ret (v := .tuple #[.int .i64 0, .slice none 0 0, .bool false, .int .i64 11]) (by simp [results, Tryd.results16, go_sem]) rfl (rh_err HP.out (B1.trans ((below_drewN w1 _).mono B1.size)))
set_option maxRecDepth 1000000 in
set_option maxHeartbeats 1000000 in
theorem rhX_f {w : World} (s : ByteArray) (hsI : (s.size : Int) ≤ 1073741824) (h0I : (14 : Int) ≤ s.size) {x0 x1 x2 x3 r0 : ByteArray} (ex0 : s.extract 0 2 = x0) (ex1 : s.extract 2 4 = x1) (ex2 : s.extract 4 12 = x2) (ex3 : s.extract 12 14 = x3) (er0 : s.extract 14 s.size = r0) (hrs : r0.size ≤ 1073741824) (f z : Int) (hf : ¬ bits BinOp.andNot IntKind.i64 f 12288 = 0) (Ba : Hid (∀ w : World, Calls Tryd.prog 23 #[.string x0] w fun e w' => e = .returned (.int .i64 (60)) ∧ w = w')) (Bb : Hid (∀ w : World, Calls Tryd.prog 23 #[.string x1] w fun e w' => e = .returned (.int .i64 (0)) ∧ w = w')) (Bn : Hid (∀ w : World, Calls Tryd.prog 23 #[.string x2] w fun e w' => e = .returned (.int .i64 (z)) ∧ w' = w)) (Bf : Hid (∀ w : World, Calls Tryd.prog 23 #[.string x3] w fun e w' => e = .returned (.int .i64 (f)) ∧ w' = w)) (HP : Hid (rhP s = .err 11)) :
    Calls Tryd.prog 16 #[.string s] w (RHPost w (rhP s)) := by
  clear hrs
  have hfb : (bits BinOp.andNot IntKind.i64 f 12288 != 0) = true := bne_iff_ne.2 hf
  go_enter Tryd.func16, Tryd.ntmps16
  go_upto_region 3 with (first | (go_at_call 23; with_reducible refine (Bb.out _).mono ?_; rintro e w1 ⟨rfl, rfl⟩) | (go_at_call 23; with_reducible refine (Ba.out _).mono ?_; rintro e w1 ⟨rfl, rfl⟩))
  go_quiet ((first | (go_at_call 23; with_reducible exact Calls.quiet_of_same (Bf.out _)) | (go_at_call 23; with_reducible exact Calls.quiet_of_same (Bn.out _))))
  go_wp2_with fail
  exact bodyPost_ret (v := .tuple #[.int .i64 0, .slice none 0 0, .bool false, .int .i64 11]) (by simp [results, Tryd.results16, go_sem]) rfl (rh_err HP.out (below_drewN w nq))
theorem readHead_c {w : World} (s : ByteArray) (hs : s.size ≤ 1073741824) :
    Calls Tryd.prog 16 #[.string s] w (RHPost w (rhP s)) := by
  by_cases h0 : s.size < 14
  · exact rhX_short s h0
  have hsI : (s.size : Int) ≤ 1073741824 := by omega
  have h0I : (14 : Int) ≤ s.size := by omega
  have hp : rhP s = rhQ (fld s 0 2) (fld s 2 4) (fld s 4 12) (fld s 12 14) (s.extract 14 s.size) := by unfold rhP; rw [if_neg h0]
  have Ba : Hid (∀ w : World, Calls Tryd.prog 23 #[.string (s.extract 0 2)] w fun e w' => e = .returned (.int .i64 ((fld s 0 2 : Nat) : Int)) ∧ w = w') := Lib.hid fun w => bigN_c _ (by rw [ByteArray.size_extract]; omega)
  have Bb : Hid (∀ w : World, Calls Tryd.prog 23 #[.string (s.extract 2 4)] w fun e w' => e = .returned (.int .i64 ((fld s 2 4 : Nat) : Int)) ∧ w = w') := Lib.hid fun w => bigN_c _ (by rw [ByteArray.size_extract]; omega)
  have Bn : Hid (∀ w : World, Calls Tryd.prog 23 #[.string (s.extract 4 12)] w fun e w' => e = .returned (.int .i64 (wrap64 ((fld s 4 12 : Nat) : Int))) ∧ w' = w) := Lib.hid fun w => (bigW_c _ (by rw [ByteArray.size_extract]; omega)).mono fun e w' ⟨a, b⟩ => ⟨a, b.symm⟩
  have Bf : Hid (∀ w : World, Calls Tryd.prog 23 #[.string (s.extract 12 14)] w fun e w' => e = .returned (.int .i64 ((fld s 12 14 : Nat) : Int)) ∧ w' = w) := Lib.hid fun w => (bigN_c _ (by rw [ByteArray.size_extract]; omega)).mono fun e w' ⟨a, b⟩ => ⟨a, b.symm⟩
  have hf16 : fld s 12 14 < 65536 := fld_lt s 12 14
  have HZZ := Lib.hid (size_z (show fld s 4 12 < 18446744073709551616 from fld_lt s 4 12))
  have hrs : (s.extract 14 s.size).size ≤ 1073741824 := by rw [ByteArray.size_extract]; omega
  generalize fld s 0 2 = a at Ba hp
  generalize fld s 2 4 = b at Bb hp
  generalize fld s 4 12 = n at Bn hp HZZ
  generalize fld s 12 14 = f at Bf hp hf16
  unfold rhQ at hp
  by_cases h1 : a ≠ 60
  · rw [if_pos h1] at hp
    exact rhX_a s hsI h0I rfl rfl rfl rfl rfl hrs a (by omega) Ba (Lib.hid hp)
  rw [if_neg h1] at hp
  obtain rfl : a = 60 := by omega
  by_cases h2 : b ≠ 0
  · rw [if_pos h2] at hp
    exact rhX_b s hsI h0I rfl rfl rfl rfl rfl hrs b (by omega) Ba Bb (Lib.hid hp)
  rw [if_neg h2] at hp
  obtain rfl : b = 0 := by omega
  by_cases hf0 : f = 0
  · subst hf0
    rw [if_pos (.inl rfl)] at hp
    exact rhX_0 s hsI h0I rfl rfl rfl rfl rfl hrs n _ HZZ Ba Bb Bn Bf hp
  by_cases hf4096 : f = 4096
  · subst hf4096
    rw [if_pos (.inr rfl)] at hp
    exact rhX_4096 s hsI h0I rfl rfl rfl rfl rfl hrs n _ HZZ Ba Bb Bn Bf hp
  rw [if_neg (fun h => h.elim hf0 hf4096)] at hp
  by_cases hf8192 : f = 8192
  · subst hf8192
    rw [if_pos (.inl rfl)] at hp
    cases ho : tableP (s.extract 14 s.size) with
    | none =>
      rw [ho] at hp
      exact rhX_8192n s hsI h0I rfl rfl rfl rfl rfl hrs n _ HZZ Ba Bb Bn Bf ho (Lib.hid hp)
    | some p =>
      obtain ⟨ps, r⟩ := p
      rw [ho] at hp
      exact rhX_8192s s hsI h0I rfl rfl rfl rfl rfl hrs n _ HZZ Ba Bb Bn Bf ho hp
  by_cases hf12288 : f = 12288
  · subst hf12288
    rw [if_pos (.inr rfl)] at hp
    cases ho : tableP (s.extract 14 s.size) with
    | none =>
      rw [ho] at hp
      exact rhX_12288n s hsI h0I rfl rfl rfl rfl rfl hrs n _ HZZ Ba Bb Bn Bf ho (Lib.hid hp)
    | some p =>
      obtain ⟨ps, r⟩ := p
      rw [ho] at hp
      exact rhX_12288s s hsI h0I rfl rfl rfl rfl rfl hrs n _ HZZ Ba Bb Bn Bf ho hp
  rw [if_neg (fun h => h.elim hf8192 hf12288)] at hp
  exact rhX_f s hsI h0I rfl rfl rfl rfl rfl hrs f _ (flags_no hf16 hf0 hf4096 hf8192 hf12288) Ba Bb Bn Bf (Lib.hid hp)
end Go.Proofs.YtbniandbmabdbaaDoor
