/- Layer 1: the readers' methods, the program's and the reference's. -/
import Derived.Test.YtndklgbjpdlegaaDoorCordD
import Derived.Test.YtndklgbjpdlegaaDoorCordW
namespace Go.Proofs.YtndklgbjpdlegaaDoor
open Go Go.RowKit
set_option linter.unusedSimpArgs false
set_option linter.unusedVariables false

/-- The readers' answers: the number or text, what is left, whether it is bad. -/
def rNum (l : List UInt8) (bad : Bool) : Int × List UInt8 × Bool :=
  if (digR 59 l).2.1 = true then ((digR 59 l).1, (digR 59 l).2.2, bad) else (0, [], true)
def rCount (l : List UInt8) (bad : Bool) : Int × List UInt8 × Bool :=
  if (rNum l bad).1 < 0 then (0, [], true) else rNum l bad
def strOk (l : List UInt8) : Bool :=
  (digR 58 l).2.1 && decide (0 ≤ (digR 58 l).1) && ((digR 58 l).2.2[(digR 58 l).1.toNat]? == some 44)
def rStr (l : List UInt8) (bad : Bool) : List UInt8 × List UInt8 × Bool :=
  if strOk l = true then ((digR 58 l).2.2.take (digR 58 l).1.toNat, (digR 58 l).2.2.drop ((digR 58 l).1.toNat + 1), bad) else ([], [], true)

def RdPost (T : Nat) (S : Nat → Prop) (w : World) (R : Nat) (v : Value) (l : List UInt8) (bad : Bool) (e : Ending) (w' : World) : Prop :=
  e = .returned v ∧ Rd T S w' R l bad ∧ w.grownBy w' (some R)

theorem rd_spoilt {T : Nat} {w : World} {S : Nat → Prop} {R : Nat} {l : List UInt8} {bad : Bool} (h : Rd T S w R l bad) :
    Rd T S ((w.setCell ⟨R, 0, none⟩ (.slice none 0 0)).setCell ⟨R, 1, none⟩ (.bool true)) R [] true := by
  obtain ⟨A, c, h1, h2, h3, h4⟩ := h
  refine ⟨none, 0, ?_, ob_rb (ob_nil _ 0), by simp, fun a ha => (by cases ha), h4.2⟩
  simp [World.setCell, Array.getElem?_modify, h1]

theorem rd_facts {T : Nat} {w : World} {S : Nat → Prop} {R : Nat} {l : List UInt8} {bad : Bool} (h : Rd T S w R l bad) :
    ∃ A c, w.cell? ⟨R, 0, none⟩ = some (.slice A l.length c) ∧ w.cell? ⟨R, 1, none⟩ = some (.bool bad) ∧ w.frozen? ⟨R, 0, none⟩ = false ∧ w.frozen? ⟨R, 1, none⟩ = false ∧ RB w (.slice A l.length c) l ∧ l.length ≤ c ∧ l.length ≤ 70368744177664 ∧ (∀ a, A = some a → S a.block) ∧ R < w.heap.size := by
  obtain ⟨A, c, h1, h2, h3, h4⟩ := h
  have hc : l.length ≤ c := by obtain ⟨_, _, he, h1, _⟩ := id h2; injection he with _ _ e3; omega
  exact ⟨A, c, by simp [World.cell?, h1], by simp [World.cell?, h1], by simp [World.frozen?, h1], by simp [World.frozen?, h1], h2, hc, h3, h4.1, (Array.getElem?_eq_some_iff.1 h1).1⟩

/-! ### the program's -/
set_option maxRecDepth 100000 in
set_option maxHeartbeats 1000000 in
theorem rd_fail {w : World} {S : Nat → Prop} {R : Nat} {l : List UInt8} {bad : Bool} (h : Rd 51 S w R l bad) :
    Calls Tryd.prog 30 #[.pointer (some ⟨R, 0, none⟩)] w (RdPost 51 S w R (.tuple #[]) [] true) := by
  obtain ⟨A, c, c0, c1, f0, f1, hb, h1, h2, h3, hR⟩ := rd_facts h
  have H := Lib.hid h
  clear h hb h3
  have f1' : (w.setCell ⟨R, 0, none⟩ (.slice none 0 0)).frozen? ⟨R, 1, none⟩ = false := by simp [f1]
  have c1' : (w.setCell ⟨R, 0, none⟩ (.slice none 0 0)).cell? ⟨R, 1, none⟩ = some (.bool bad) := by rw [World.cell?_setCell_other _ _ _ _ (by simp)]; exact c1
  go_enter Tryd.func30, Tryd.ntmps30
  go_wp2
  go_end0
  exact ⟨rfl, rd_spoilt H.out, (grownBy_set _ R 0 _).trans (grownBy_set _ R 1 _)⟩

set_option maxRecDepth 100000 in
set_option maxHeartbeats 1000000 in
theorem rd_num {w : World} {S : Nat → Prop} {R : Nat} {l : List UInt8} {bad : Bool} (hG : G w) (h : Rd 51 S w R l bad) :
    Calls Tryd.prog 17 #[.pointer (some ⟨R, 0, none⟩)] w (RdPost 51 S w R (.int .i64 (rNum l bad).1) (rNum l bad).2.1 (rNum l bad).2.2) := by
  have HD := Lib.hid (digits_c hG h 59)
  obtain ⟨n, ok, r, hd⟩ : ∃ n ok r, digR 59 l = (n, ok, r) := ⟨_, _, _, rfl⟩
  have HDD := Lib.hid hd
  clear hd hG
  cases ok with
  | true =>
    have hf : rNum l bad = (n, r, bad) := by unfold rNum; rw [HDD.out]; rfl
    rw [hf]
    clear hf
    go_enter Tryd.func17, Tryd.ntmps17
    go_wp2_with (go_at_call 29; refine (HD.out).mono ?_; rintro e w1 ⟨he, hr, hg⟩; rw [HDD.out] at he hr; subst he)
    go_ret
    exact ⟨rfl, hr, hg⟩
  | false =>
    have hf : rNum l bad = (0, [], true) := by unfold rNum; rw [HDD.out]; rfl
    rw [hf]
    clear hf
    have hn0 : n = 0 := by
      have h1 := HDD.out
      unfold digR at h1
      split at h1
      · cases h1; rfl
      · split at h1 <;> cases h1
        rfl
    subst hn0
    go_enter Tryd.func17, Tryd.ntmps17
    go_wp2_with (first
      | (go_at_call 29; refine (HD.out).mono ?_; rintro e w1 ⟨he, hr, hg⟩; rw [HDD.out] at he hr; subst he)
      | (go_at_call 30; refine (rd_fail hr).mono ?_; rintro e w2 ⟨rfl, hr2, hg2⟩))
    go_ret
    exact ⟨rfl, hr2, hg.trans hg2⟩

set_option maxRecDepth 100000 in
set_option maxHeartbeats 1000000 in
theorem rd_count {w : World} {S : Nat → Prop} {R : Nat} {l : List UInt8} {bad : Bool} (hG : G w) (h : Rd 51 S w R l bad) :
    Calls Tryd.prog 23 #[.pointer (some ⟨R, 0, none⟩)] w (RdPost 51 S w R (.int .i64 (rCount l bad).1) (rCount l bad).2.1 (rCount l bad).2.2) := by
  have HD := Lib.hid (rd_num hG h)
  obtain ⟨n, r, b, hd⟩ : ∃ n r b, rNum l bad = (n, r, b) := ⟨_, _, _, rfl⟩
  have HDD := Lib.hid hd
  clear hd hG h
  by_cases hn : n < 0
  · have hf : rCount l bad = (0, [], true) := by unfold rCount; rw [HDD.out]; simp only [if_pos hn]
    rw [hf]
    clear hf
    go_enter Tryd.func23, Tryd.ntmps23
    go_wp2_with (first
      | (go_at_call 17; refine (HD.out).mono ?_; rintro e w1 ⟨he, hr, hg⟩; rw [HDD.out] at he hr; subst he)
      | (go_at_call 30; refine (rd_fail hr).mono ?_; rintro e w2 ⟨rfl, hr2, hg2⟩))
    go_ret
    exact ⟨rfl, hr2, hg.trans hg2⟩
  · have hf : rCount l bad = (n, r, b) := by unfold rCount; rw [HDD.out]; simp only [if_neg hn]
    rw [hf]
    clear hf
    go_enter Tryd.func23, Tryd.ntmps23
    go_wp2_with (go_at_call 17; refine (HD.out).mono ?_; rintro e w1 ⟨he, hr, hg⟩; rw [HDD.out] at he hr; subst he)
    go_ret
    exact ⟨rfl, hr, hg⟩

set_option maxRecDepth 100000 in
set_option maxHeartbeats 2000000 in
theorem rd_str {w : World} {S : Nat → Prop} {R : Nat} {l : List UInt8} {bad : Bool} (hG : G w) (h : Rd 51 S w R l bad) :
    Calls Tryd.prog 19 #[.pointer (some ⟨R, 0, none⟩)] w (RdPost 51 S w R (.string ⟨(rStr l bad).1.toArray⟩) (rStr l bad).2.1 (rStr l bad).2.2) := by
  have HD := Lib.hid (digits_c hG h 58)
  obtain ⟨n, ok, r, hd⟩ : ∃ n ok r, digR 58 l = (n, ok, r) := ⟨_, _, _, rfl⟩
  have HDD := Lib.hid hd
  clear hd hG h
  by_cases hs : strOk l = true
  · have hf : rStr l bad = (r.take n.toNat, r.drop (n.toNat + 1), bad) := by unfold rStr; rw [if_pos hs, HDD.out]
    rw [hf]
    unfold strOk at hs
    rw [HDD.out] at hs
    simp only [Bool.and_eq_true, decide_eq_true_eq, beq_iff_eq] at hs
    obtain ⟨⟨rfl, h0⟩, h44⟩ := hs
    obtain ⟨k, rfl⟩ := Int.eq_ofNat_of_zero_le h0
    simp only [Int.toNat_natCast] at h44 ⊢
    have hkr : k < r.length := (List.getElem?_eq_some_iff.1 h44).1
    have H44 := Lib.hid h44
    clear hf h44 h0
    go_enter Tryd.func19, Tryd.ntmps19
    go_wp2_with fail
    refine (HD.out).mono ?_
    rintro e w1 ⟨he, hr, hg⟩
    rw [HDD.out] at he hr
    change Rd _ S w1 R r bad at hr
    subst he
    obtain ⟨A, c, c0, c1, f0, f1, hb, h1, h2, h3, hR⟩ := rd_facts hr
    obtain ⟨a, rfl, hc⟩ := rb_cell hb k 44 H44.out
    have hcv := rb_string (rb_take hb rfl k (by omega))
    obtain ⟨A', hdr, hdr2, hdr3⟩ := rb_drop (some a) c r h1 ((k : Int) + 1) (by omega) (by omega)
    have HR := Lib.hid hr
    have HB := Lib.hid hb
    have H3 := Lib.hid h3
    have HD2 := Lib.hid hdr2
    have HD3 := Lib.hid hdr3
    clear hr hb h3 hdr2 hdr3
    go_wp2
    go_ret
    have e1 : ((k : Int) + 1).toNat = k + 1 := by omega
    have hrb := HD2.out _ HB.out
    rw [e1] at hrb
    exact ⟨rfl, rd_set0 HR.out (by rw [List.length_drop]) hrb (by rw [List.length_drop]; omega) (fun a' ha => by obtain ⟨a0, h0, h1⟩ := HD3.out a' ha; rw [h1]; exact H3.out a0 h0), hg.trans (grownBy_set _ R 0 _)⟩
  · have hf : rStr l bad = ([], [], true) := by unfold rStr; rw [if_neg hs]
    rw [hf]
    unfold strOk at hs
    rw [HDD.out] at hs
    simp only [Bool.and_eq_true, decide_eq_true_eq, beq_iff_eq] at hs
    have HS := Lib.hid hs
    clear hf hs
    cases ok with
    | false =>
      go_enter Tryd.func19, Tryd.ntmps19
      go_wp2_with (first
        | (go_at_call 29; refine (HD.out).mono ?_; rintro e w1 ⟨he, hr, hg⟩; rw [HDD.out] at he hr; subst he)
        | (go_at_call 30; refine (rd_fail hr).mono ?_; rintro e w2 ⟨rfl, hr2, hg2⟩))
      go_ret
      exact ⟨rfl, hr2, hg.trans hg2⟩
    | true =>
      by_cases h0 : n < 0
      · go_enter Tryd.func19, Tryd.ntmps19
        go_wp2_with (first
          | (go_at_call 29; refine (HD.out).mono ?_; rintro e w1 ⟨he, hr, hg⟩; rw [HDD.out] at he hr; subst he)
          | (go_at_call 30; refine (rd_fail hr).mono ?_; rintro e w2 ⟨rfl, hr2, hg2⟩))
        go_ret
        exact ⟨rfl, hr2, hg.trans hg2⟩
      · obtain ⟨k, rfl⟩ := Int.eq_ofNat_of_zero_le (show 0 ≤ n by omega)
        by_cases hkr : k < r.length
        · obtain ⟨x, hx⟩ : ∃ x, r[k]? = some x := ⟨_, List.getElem?_eq_getElem hkr⟩
          have hx44 : ¬ ((x.toNat : Int) = 44) := fun he => HS.out ⟨⟨rfl, by omega⟩, by
            simp only [Int.toNat_natCast, hx]
            have : x.toNat = (44 : UInt8).toNat := by have h44 : (44 : UInt8).toNat = 44 := rfl; omega
            rw [UInt8.toNat_inj.1 this]⟩
          have hxb : ((x.toNat : Int) != 44) = true := by simpa using hx44
          have HX := Lib.hid hx
          clear hx hx44
          go_enter Tryd.func19, Tryd.ntmps19
          go_wp2_with fail
          refine (HD.out).mono ?_
          rintro e w1 ⟨he, hr, hg⟩
          rw [HDD.out] at he hr
          change Rd _ S w1 R r bad at hr
          subst he
          obtain ⟨A, c, c0, c1, f0, f1, hb, h1, h2, h3, hR⟩ := rd_facts hr
          obtain ⟨a, rfl, hc⟩ := rb_cell hb k x HX.out
          have HR := Lib.hid hr
          clear hr hb h3
          go_wp2_with (go_at_call 30; refine (rd_fail HR.out).mono ?_; rintro e w2 ⟨rfl, hr2, hg2⟩)
          go_ret
          exact ⟨rfl, hr2, hg.trans hg2⟩
        · go_enter Tryd.func19, Tryd.ntmps19
          go_wp2_with fail
          refine (HD.out).mono ?_
          rintro e w1 ⟨he, hr, hg⟩
          rw [HDD.out] at he hr
          change Rd _ S w1 R r bad at hr
          subst he
          obtain ⟨A, c, c0, c1, f0, f1, hb, h1, h2, h3, hR⟩ := rd_facts hr
          have HR := Lib.hid hr
          clear hr hb h3
          go_wp2_with (go_at_call 30; refine (rd_fail HR.out).mono ?_; rintro e w2 ⟨rfl, hr2, hg2⟩)
          go_ret
          exact ⟨rfl, hr2, hg.trans hg2⟩

/-! ### the reference's -/
set_option maxRecDepth 100000 in
set_option maxHeartbeats 1000000 in
theorem rr_fail {w : World} {S : Nat → Prop} {R : Nat} {l : List UInt8} {bad : Bool} (h : Rd 38 S w R l bad) :
    Calls Tryd.prog 32 #[.pointer (some ⟨R, 0, none⟩)] w (RdPost 38 S w R (.tuple #[]) [] true) := by
  obtain ⟨A, c, c0, c1, f0, f1, hb, h1, h2, h3, hR⟩ := rd_facts h
  have H := Lib.hid h
  clear h hb h3
  have f1' : (w.setCell ⟨R, 0, none⟩ (.slice none 0 0)).frozen? ⟨R, 1, none⟩ = false := by simp [f1]
  have c1' : (w.setCell ⟨R, 0, none⟩ (.slice none 0 0)).cell? ⟨R, 1, none⟩ = some (.bool bad) := by rw [World.cell?_setCell_other _ _ _ _ (by simp)]; exact c1
  go_enter Tryd.func32, Tryd.ntmps32
  go_wp2
  go_end0
  exact ⟨rfl, rd_spoilt H.out, (grownBy_set _ R 0 _).trans (grownBy_set _ R 1 _)⟩

set_option maxRecDepth 100000 in
set_option maxHeartbeats 1000000 in
theorem rr_num {w : World} {S : Nat → Prop} {R : Nat} {l : List UInt8} {bad : Bool} (hG : G w) (h : Rd 38 S w R l bad) :
    Calls Tryd.prog 18 #[.pointer (some ⟨R, 0, none⟩)] w (RdPost 38 S w R (.int .i64 (rNum l bad).1) (rNum l bad).2.1 (rNum l bad).2.2) := by
  have HD := Lib.hid (word_c hG h 59)
  obtain ⟨n, ok, r, hd⟩ : ∃ n ok r, digR 59 l = (n, ok, r) := ⟨_, _, _, rfl⟩
  have HDD := Lib.hid hd
  clear hd hG
  cases ok with
  | true =>
    have hf : rNum l bad = (n, r, bad) := by unfold rNum; rw [HDD.out]; rfl
    rw [hf]
    clear hf
    go_enter Tryd.func18, Tryd.ntmps18
    go_wp2_with (go_at_call 31; refine (HD.out).mono ?_; rintro e w1 ⟨he, hr, hg⟩; rw [HDD.out] at he hr; subst he)
    go_ret
    exact ⟨rfl, hr, hg⟩
  | false =>
    have hf : rNum l bad = (0, [], true) := by unfold rNum; rw [HDD.out]; rfl
    rw [hf]
    clear hf
    have hn0 : n = 0 := by
      have h1 := HDD.out
      unfold digR at h1
      split at h1
      · cases h1; rfl
      · split at h1 <;> cases h1
        rfl
    subst hn0
    go_enter Tryd.func18, Tryd.ntmps18
    go_wp2_with (first
      | (go_at_call 31; refine (HD.out).mono ?_; rintro e w1 ⟨he, hr, hg⟩; rw [HDD.out] at he hr; subst he)
      | (go_at_call 32; refine (rr_fail hr).mono ?_; rintro e w2 ⟨rfl, hr2, hg2⟩))
    go_ret
    exact ⟨rfl, hr2, hg.trans hg2⟩

set_option maxRecDepth 100000 in
set_option maxHeartbeats 1000000 in
theorem rr_count {w : World} {S : Nat → Prop} {R : Nat} {l : List UInt8} {bad : Bool} (hG : G w) (h : Rd 38 S w R l bad) :
    Calls Tryd.prog 24 #[.pointer (some ⟨R, 0, none⟩)] w (RdPost 38 S w R (.int .i64 (rCount l bad).1) (rCount l bad).2.1 (rCount l bad).2.2) := by
  have HD := Lib.hid (rr_num hG h)
  obtain ⟨n, r, b, hd⟩ : ∃ n r b, rNum l bad = (n, r, b) := ⟨_, _, _, rfl⟩
  have HDD := Lib.hid hd
  clear hd hG h
  by_cases hn : n < 0
  · have hf : rCount l bad = (0, [], true) := by unfold rCount; rw [HDD.out]; simp only [if_pos hn]
    rw [hf]
    clear hf
    go_enter Tryd.func24, Tryd.ntmps24
    go_wp2_with (first
      | (go_at_call 18; refine (HD.out).mono ?_; rintro e w1 ⟨he, hr, hg⟩; rw [HDD.out] at he hr; subst he)
      | (go_at_call 32; refine (rr_fail hr).mono ?_; rintro e w2 ⟨rfl, hr2, hg2⟩))
    go_ret
    exact ⟨rfl, hr2, hg.trans hg2⟩
  · have hf : rCount l bad = (n, r, b) := by unfold rCount; rw [HDD.out]; simp only [if_neg hn]
    rw [hf]
    clear hf
    go_enter Tryd.func24, Tryd.ntmps24
    go_wp2_with (go_at_call 18; refine (HD.out).mono ?_; rintro e w1 ⟨he, hr, hg⟩; rw [HDD.out] at he hr; subst he)
    go_ret
    exact ⟨rfl, hr, hg⟩

set_option maxRecDepth 100000 in
set_option maxHeartbeats 2000000 in
theorem rr_str {w : World} {S : Nat → Prop} {R : Nat} {l : List UInt8} {bad : Bool} (hG : G w) (h : Rd 38 S w R l bad) :
    Calls Tryd.prog 25 #[.pointer (some ⟨R, 0, none⟩)] w (RdPost 38 S w R (.string ⟨(rStr l bad).1.toArray⟩) (rStr l bad).2.1 (rStr l bad).2.2) := by
  have HD := Lib.hid (word_c hG h 58)
  obtain ⟨n, ok, r, hd⟩ : ∃ n ok r, digR 58 l = (n, ok, r) := ⟨_, _, _, rfl⟩
  have HDD := Lib.hid hd
  clear hd hG h
  by_cases hs : strOk l = true
  · have hf : rStr l bad = (r.take n.toNat, r.drop (n.toNat + 1), bad) := by unfold rStr; rw [if_pos hs, HDD.out]
    rw [hf]
    unfold strOk at hs
    rw [HDD.out] at hs
    simp only [Bool.and_eq_true, decide_eq_true_eq, beq_iff_eq] at hs
    obtain ⟨⟨rfl, h0⟩, h44⟩ := hs
    obtain ⟨k, rfl⟩ := Int.eq_ofNat_of_zero_le h0
    simp only [Int.toNat_natCast] at h44 ⊢
    have hkr : k < r.length := (List.getElem?_eq_some_iff.1 h44).1
    have H44 := Lib.hid h44
    clear hf h44 h0
    go_enter Tryd.func25, Tryd.ntmps25
    go_wp2_with fail
    refine (HD.out).mono ?_
    rintro e w1 ⟨he, hr, hg⟩
    rw [HDD.out] at he hr
    change Rd _ S w1 R r bad at hr
    subst he
    obtain ⟨A, c, c0, c1, f0, f1, hb, h1, h2, h3, hR⟩ := rd_facts hr
    obtain ⟨a, rfl, hc⟩ := rb_cell hb k 44 H44.out
    have hcv := rb_string (rb_take hb rfl k (by omega))
    obtain ⟨A', hdr, hdr2, hdr3⟩ := rb_drop (some a) c r h1 ((k : Int) + 1) (by omega) (by omega)
    have HR := Lib.hid hr
    have HB := Lib.hid hb
    have H3 := Lib.hid h3
    have HD2 := Lib.hid hdr2
    have HD3 := Lib.hid hdr3
    clear hr hb h3 hdr2 hdr3
    go_wp2
    go_ret
    have e1 : ((k : Int) + 1).toNat = k + 1 := by omega
    have hrb := HD2.out _ HB.out
    rw [e1] at hrb
    exact ⟨rfl, rd_set0 HR.out (by rw [List.length_drop]) hrb (by rw [List.length_drop]; omega) (fun a' ha => by obtain ⟨a0, h0, h1⟩ := HD3.out a' ha; rw [h1]; exact H3.out a0 h0), hg.trans (grownBy_set _ R 0 _)⟩
  · have hf : rStr l bad = ([], [], true) := by unfold rStr; rw [if_neg hs]
    rw [hf]
    unfold strOk at hs
    rw [HDD.out] at hs
    simp only [Bool.and_eq_true, decide_eq_true_eq, beq_iff_eq] at hs
    have HS := Lib.hid hs
    clear hf hs
    cases ok with
    | false =>
      go_enter Tryd.func25, Tryd.ntmps25
      go_wp2_with (first
        | (go_at_call 31; refine (HD.out).mono ?_; rintro e w1 ⟨he, hr, hg⟩; rw [HDD.out] at he hr; subst he)
        | (go_at_call 32; refine (rr_fail hr).mono ?_; rintro e w2 ⟨rfl, hr2, hg2⟩))
      go_ret
      exact ⟨rfl, hr2, hg.trans hg2⟩
    | true =>
      by_cases h0 : n < 0
      · go_enter Tryd.func25, Tryd.ntmps25
        go_wp2_with (first
          | (go_at_call 31; refine (HD.out).mono ?_; rintro e w1 ⟨he, hr, hg⟩; rw [HDD.out] at he hr; subst he)
          | (go_at_call 32; refine (rr_fail hr).mono ?_; rintro e w2 ⟨rfl, hr2, hg2⟩))
        go_ret
        exact ⟨rfl, hr2, hg.trans hg2⟩
      · obtain ⟨k, rfl⟩ := Int.eq_ofNat_of_zero_le (show 0 ≤ n by omega)
        by_cases hkr : k < r.length
        · obtain ⟨x, hx⟩ : ∃ x, r[k]? = some x := ⟨_, List.getElem?_eq_getElem hkr⟩
          have hx44 : ¬ ((x.toNat : Int) = 44) := fun he => HS.out ⟨⟨rfl, by omega⟩, by
            simp only [Int.toNat_natCast, hx]
            have : x.toNat = (44 : UInt8).toNat := by have h44 : (44 : UInt8).toNat = 44 := rfl; omega
            rw [UInt8.toNat_inj.1 this]⟩
          have hxb : ((x.toNat : Int) != 44) = true := by simpa using hx44
          have HX := Lib.hid hx
          clear hx hx44
          go_enter Tryd.func25, Tryd.ntmps25
          go_wp2_with fail
          refine (HD.out).mono ?_
          rintro e w1 ⟨he, hr, hg⟩
          rw [HDD.out] at he hr
          change Rd _ S w1 R r bad at hr
          subst he
          obtain ⟨A, c, c0, c1, f0, f1, hb, h1, h2, h3, hR⟩ := rd_facts hr
          obtain ⟨a, rfl, hc⟩ := rb_cell hb k x HX.out
          have HR := Lib.hid hr
          clear hr hb h3
          go_wp2_with (go_at_call 32; refine (rr_fail HR.out).mono ?_; rintro e w2 ⟨rfl, hr2, hg2⟩)
          go_ret
          exact ⟨rfl, hr2, hg.trans hg2⟩
        · go_enter Tryd.func25, Tryd.ntmps25
          go_wp2_with fail
          refine (HD.out).mono ?_
          rintro e w1 ⟨he, hr, hg⟩
          rw [HDD.out] at he hr
          change Rd _ S w1 R r bad at hr
          subst he
          obtain ⟨A, c, c0, c1, f0, f1, hb, h1, h2, h3, hR⟩ := rd_facts hr
          have HR := Lib.hid hr
          clear hr hb h3
          go_wp2_with (go_at_call 32; refine (rr_fail HR.out).mono ?_; rintro e w2 ⟨rfl, hr2, hg2⟩)
          go_ret
          exact ⟨rfl, hr2, hg.trans hg2⟩

/-! ### New, Bad, Left, End -/
theorem rd_made {T : Nat} {W : World} {base : Nat} {A : Option Addr} {c : Nat} {l : List UInt8} (h : OB W base (.slice A l.length c) l) (hl : l.length ≤ 70368744177664) :
    Rd T (fun k => base ≤ k ∧ k < W.heap.size) (W.alloc (.cells #[.slice A l.length c, .bool false] T)) W.heap.size l false := by
  refine ⟨A, c, by simpa using heap_alloc_new W _, rc_alloc (ob_rb h) _, hl, ?_, by omega⟩
  rintro a rfl
  rcases h.2 with ⟨h, _⟩ | ⟨g, cap, cur, he, hg, hh, _⟩
  · cases h
  · injection he with e1 _ _
    injection e1 with e1
    subst e1
    exact ⟨hg, (Array.getElem?_eq_some_iff.1 hh).1⟩

set_option maxRecDepth 100000 in
theorem rd_new {w : World} {v : Value} {l : List UInt8} (h : RB w v l) (hl : l.length ≤ 70368744177664) :
    Calls Tryd.prog 16 #[v] w fun e w' => ∃ R, e = .returned (.pointer (some ⟨R, 0, none⟩)) ∧ w.heap.size ≤ R ∧ Rd 51 (fun k => w.heap.size ≤ k ∧ k < R) w' R l false ∧ Below w.heap.size w w' := by
  have H := Lib.hid h
  clear h
  go_enter Tryd.func16, Tryd.ntmps16
  go_wp2_with (go_at_call 27; refine (clone_b H.out (by omega)).mono ?_; rintro e w1 ⟨v1, rfl, o1, b1⟩; obtain ⟨A, c, rfl, hA0⟩ := id (ob_rb o1); have O1 := Lib.hid o1; clear o1 hA0)
  go_ret
  exact ⟨w1.heap.size, rfl, b1.size, rd_made O1.out hl, b1.alloc b1.size _⟩

set_option maxRecDepth 100000 in
theorem rd_bad {w : World} {S : Nat → Prop} {R : Nat} {l : List UInt8} {bad : Bool} (h : Rd 51 S w R l bad) :
    Calls Tryd.prog 20 #[.pointer (some ⟨R, 0, none⟩)] w fun e w' => e = .returned (.bool bad) ∧ w = w' := by
  obtain ⟨A, c, c0, c1, f0, f1, hb, h1, h2, h3, hR⟩ := rd_facts h
  clear h hb h3
  go_enter Tryd.func20, Tryd.ntmps20
  go_wp2
  go_ret
  exact ⟨rfl, rfl⟩

set_option maxRecDepth 100000 in
theorem rd_left {w : World} {S : Nat → Prop} {R : Nat} {l : List UInt8} {bad : Bool} (h : Rd 51 S w R l bad) :
    Calls Tryd.prog 21 #[.pointer (some ⟨R, 0, none⟩)] w fun e w' => e = .returned (.int .i64 l.length) ∧ w = w' := by
  obtain ⟨A, c, c0, c1, f0, f1, hb, h1, h2, h3, hR⟩ := rd_facts h
  clear h hb h3
  go_enter Tryd.func21, Tryd.ntmps21
  go_wp2
  go_ret
  exact ⟨rfl, rfl⟩

set_option maxRecDepth 100000 in
theorem rd_end {w : World} {S : Nat → Prop} {R : Nat} {l : List UInt8} {bad : Bool} (h : Rd 51 S w R l bad) :
    Calls Tryd.prog 22 #[.pointer (some ⟨R, 0, none⟩)] w fun e w' => e = .returned (.bool (!bad && decide (l = []))) ∧ w = w' := by
  have H := Lib.hid h
  have hl : ((l.length : Int) == 0) = decide (l = []) := by cases l <;> simp <;> omega
  have HL := Lib.hid hl
  clear h hl
  cases bad
  all_goals
    go_enter Tryd.func22, Tryd.ntmps22
    go_wp2_with (first
      | (go_at_call 20; refine (rd_bad H.out).mono ?_; rintro e w1 ⟨rfl, rfl⟩)
      | (go_at_call 21; refine (rd_left H.out).mono ?_; rintro e w1 ⟨rfl, rfl⟩))
    go_ret
    refine ⟨?_, rfl⟩
    first | rfl | (have := HL.out; simp at this ⊢; simpa using this)
end Go.Proofs.YtndklgbjpdlegaaDoor
