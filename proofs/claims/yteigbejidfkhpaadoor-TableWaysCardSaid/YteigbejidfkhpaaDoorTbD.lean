/- Layer 6: Narrow. -/
import Derived.Test.YteigbejidfkhpaaDoorTbB
import Derived.Test.YteigbejidfkhpaaDoorFloatL
import Derived.Laws.FloatArith
namespace Go.Proofs.YteigbejidfkhpaaDoor
open Go Go.RowKit
set_option linter.unusedSimpArgs false
set_option linter.unusedVariables false

/-- A float32 as a float64 (none: a NaN, of whatever bits). -/
def widenE (f : Nat) : Option Nat :=
  match Ieee.single.read f with
  | .number s m e => some (Ieee.double.write (.number s m e))
  | .infinity s => some (Ieee.double.write (.infinity s))
  | .nan _ _ => none
/-- The 32 bits that a float fits. -/
def narB (r : Nat) : Option Nat :=
  if nanB r = true then some 2143289344
  else match Ieee.double.read r with
  | .nan _ _ => none
  | .infinity s => some (Ieee.single.write (.infinity s))
  | .number s m e =>
    if (Ieee.single.read (Ieee.single.write (.number s m e))).isInfinity = true then none
    else match widenE (Ieee.single.write (.number s m e)) with
    | some v => if Ieee.double.order v r = some .eq then some (Ieee.single.write (.number s m e)) else none
    | none => none

theorem bits32_run (w : World) (r : Nat) : (callFunc 69 #[.float .f32 r]).run Tryd.prog w = .ok (.value (.int .u32 r)) w := by
  rw [run_callFunc_extern (e := Extern.MathFloatBits.float32bits) Tryd.func69 (by kernel_rfl) (by kernel_rfl) (by kernel_rfl) (by kernel_rfl)]
  rfl

theorem to32_num {r : Nat} {s : Bool} {m : Nat} {e : Int} (h : Ieee.double.read r = .number s m e) (hi : (Ieee.single.read (Ieee.single.write (.number s m e))).isInfinity = false) (w : World) :
    (convert 41 95 (.float .f64 r)).run Tryd.prog w = .ok (.float .f32 (Ieee.single.write (.number s m e))) w := by
  refine run_convert_float_float (w := w) _ _ .f64 .f32 r _ (by rw [Tryd.underlying41]; rfl) Tryd.underlying95 ?_
  have h' : FloatKind.f64.decode r = .number s m e := h
  have hi' : (FloatKind.f32.decode (FloatKind.f32.encode (.number s m e))).isInfinity = false := hi
  unfold floatToFloatBits
  rw [if_neg (by decide), h']
  simp only [hi', Bool.false_eq_true, if_false]
  rfl
theorem to32_inf {r : Nat} {s : Bool} (h : Ieee.double.read r = .infinity s) (w : World) :
    (convert 41 95 (.float .f64 r)).run Tryd.prog w = .ok (.float .f32 (Ieee.single.write (.infinity s))) w := by
  refine run_convert_float_float (w := w) _ _ .f64 .f32 r _ (by rw [Tryd.underlying41]; rfl) Tryd.underlying95 ?_
  have h' : FloatKind.f64.decode r = .infinity s := h
  unfold floatToFloatBits
  rw [if_neg (by decide), h']
  rfl
theorem to32_over {r : Nat} {s : Bool} {m : Nat} {e : Int} (h : Ieee.double.read r = .number s m e) (hi : (Ieee.single.read (Ieee.single.write (.number s m e))).isInfinity = true) (w : World) :
    ∃ f, (convert 41 95 (.float .f64 r)).run Tryd.prog w = .ok (.float .f32 f) w.drew := by
  have h' : FloatKind.f64.decode r = .number s m e := h
  have hi' : (FloatKind.f32.decode (FloatKind.f32.encode (.number s m e))).isInfinity = true := hi
  have u1 := Tryd.underlying41
  have u2 := Tryd.underlying95
  refine ⟨(Question.floatToFloat r).cut (w.tape w.drawn (.floatToFloat r)), ?_⟩
  simp [convert, run_underlying u1, run_underlying u2, Conv.floatToFloat, h', hi', Question.forced]
theorem to64_num {f : Nat} {s : Bool} {m : Nat} {e : Int} (h : Ieee.single.read f = .number s m e) (w : World) :
    (convert 95 41 (.float .f32 f)).run Tryd.prog w = .ok (.float .f64 (Ieee.double.write (.number s m e))) w := by
  refine run_convert_float_float (w := w) _ _ .f32 .f64 f _ (by rw [Tryd.underlying95]; rfl) Tryd.underlying41 ?_
  have h' : FloatKind.f32.decode f = .number s m e := h
  have hi' : (FloatKind.f64.decode (FloatKind.f64.encode (.number s m e))).isInfinity = false := FloatL.widen_fin h
  unfold floatToFloatBits
  rw [if_neg (by decide), h']
  simp only [hi', Bool.false_eq_true, if_false]
  rfl
theorem to64_inf {f : Nat} {s : Bool} (h : Ieee.single.read f = .infinity s) (w : World) :
    (convert 95 41 (.float .f32 f)).run Tryd.prog w = .ok (.float .f64 (Ieee.double.write (.infinity s))) w := by
  refine run_convert_float_float (w := w) _ _ .f32 .f64 f _ (by rw [Tryd.underlying95]; rfl) Tryd.underlying41 ?_
  have h' : FloatKind.f32.decode f = .infinity s := h
  unfold floatToFloatBits
  rw [if_neg (by decide), h']
  rfl
theorem to64_nan {f : Nat} {s : Bool} {t : Nat} (h : Ieee.single.read f = .nan s t) (w : World) :
    ∃ b, (convert 95 41 (.float .f32 f)).run Tryd.prog w = .ok (.float .f64 b) w.drew ∧ ∀ r, Ieee.double.order b r = none := by
  have h' : FloatKind.f32.decode f = .nan s t := h
  have u1 := Tryd.underlying41
  have u2 := Tryd.underlying95
  refine ⟨(Question.nanConv .f64 f).cut (w.tape w.drawn (.nanConv .f64 f)), ?_, fun r => ?_⟩
  · simp [convert, run_underlying u1, run_underlying u2, Conv.floatToFloat, h', Question.forced]
  · obtain ⟨a, b, hab⟩ := FloatL.nan_read (w.tape w.drawn (.nanConv .f64 f))
    have e : Ieee.double.read ((Question.nanConv .f64 f).cut (w.tape w.drawn (.nanConv .f64 f))) = .nan a b := hab
    unfold Ieee.Format.order
    rw [e]
    rfl

/-- The one way: what is f, what is it as a float64, does it fit. -/
theorem nar_nan {r : Nat} (h : nanB r = false) : ∀ s t, Ieee.double.read r ≠ .nan s t := by
  intro s t e
  unfold nanB at h
  have : Ieee.double.order r r = none := by unfold Ieee.Format.order; rw [e]; rfl
  rw [show FloatKind.f64.format.order r r = none from this] at h
  exact absurd h (by decide)

set_option maxRecDepth 100000 in
set_option maxHeartbeats 1000000 in
theorem narrow_yes {w w1 w2 : World} {r f b : Nat} (hn : (FloatKind.f64.format.order r r != some .eq) = false) (c1 : (convert 41 95 (.float .f64 r)).run Tryd.prog w = .ok (.float .f32 f) w1) (c2 : (convert 95 41 (.float .f32 f)).run Tryd.prog w1 = .ok (.float .f64 b) w2)
    (ho : (FloatKind.f64.format.order b r != some .eq) = false) (hb : Below w.heap.size w w2) :
    Calls Tryd.prog 55 #[.float .f64 r] w fun e w' => e = .returned (.tuple #[.int .u32 f, .bool true]) ∧ Below w.heap.size w w' := by
  have q32 := bits32_run
  have HB := Lib.hid hb
  clear hb
  go_enter Tryd.func55, Tryd.ntmps55
  go_wp2_with fail
  go_ret2
  exact ⟨rfl, HB.out⟩
set_option maxRecDepth 100000 in
set_option maxHeartbeats 1000000 in
theorem narrow_no {w w1 w2 : World} {r f b : Nat} (hn : (FloatKind.f64.format.order r r != some .eq) = false) (c1 : (convert 41 95 (.float .f64 r)).run Tryd.prog w = .ok (.float .f32 f) w1) (c2 : (convert 95 41 (.float .f32 f)).run Tryd.prog w1 = .ok (.float .f64 b) w2)
    (ho : (FloatKind.f64.format.order b r != some .eq) = true) (hb : Below w.heap.size w w2) :
    Calls Tryd.prog 55 #[.float .f64 r] w fun e w' => e = .returned (.tuple #[.int .u32 0, .bool false]) ∧ Below w.heap.size w w' := by
  have HB := Lib.hid hb
  clear hb
  go_enter Tryd.func55, Tryd.ntmps55
  go_wp2_with fail
  go_ret2
  exact ⟨rfl, HB.out⟩
theorem narB_num {r : Nat} {s : Bool} {m : Nat} {e : Int} (hn : nanB r = false) (hrd : Ieee.double.read r = .number s m e) (hi : (Ieee.single.read (Ieee.single.write (.number s m e))).isInfinity = false) :
    narB r = (match widenE (Ieee.single.write (.number s m e)) with | some v => if Ieee.double.order v r = some .eq then some (Ieee.single.write (.number s m e)) else none | none => none) := by
  unfold narB
  rw [if_neg (by rw [hn]; decide), hrd]
  show (if _ then _ else _) = _
  rw [if_neg (by rw [hi]; decide)]
theorem narB_some {r v : Nat} {s : Bool} {m : Nat} {e : Int} (hn : nanB r = false) (hrd : Ieee.double.read r = .number s m e) (hi : (Ieee.single.read (Ieee.single.write (.number s m e))).isInfinity = false) (hw : widenE (Ieee.single.write (.number s m e)) = some v) :
    narB r = if Ieee.double.order v r = some .eq then some (Ieee.single.write (.number s m e)) else none := by
  rw [narB_num hn hrd hi, hw]
theorem narB_none {r : Nat} {s : Bool} {m : Nat} {e : Int} (hn : nanB r = false) (hrd : Ieee.double.read r = .number s m e) (hi : (Ieee.single.read (Ieee.single.write (.number s m e))).isInfinity = false) (hw : widenE (Ieee.single.write (.number s m e)) = none) :
    narB r = none := by
  rw [narB_num hn hrd hi, hw]
theorem neq_none {o : Option Ordering} (h : o = none) : (o != some .eq) = true := by rw [h]; rfl
theorem neq_not {o : Option Ordering} (h : ¬ o = some .eq) : (o != some .eq) = true := by
  cases o with
  | none => rfl
  | some x => cases x <;> first | rfl | (exact absurd rfl h)
theorem neq_eq {o : Option Ordering} (h : o = some .eq) : (o != some .eq) = false := by rw [h]; rfl

set_option maxRecDepth 100000 in
set_option maxHeartbeats 2000000 in
theorem narrow_c {w : World} (r : Nat) (hr : r < 18446744073709551616) :
    Calls Tryd.prog 55 #[.float .f64 r] w fun e w' => e = .returned (.tuple #[.int .u32 ((narB r).getD 0 : Nat), .bool (narB r).isSome]) ∧ Below w.heap.size w w' := by
  have q32 := bits32_run
  cases hn : nanB r with
  | true =>
    have e : narB r = some 2143289344 := by unfold narB; rw [if_pos hn]
    rw [e]
    clear e
    unfold nanB at hn
    go_enter Tryd.func55, Tryd.ntmps55
    go_wp2_with fail
    go_ret2
    exact ⟨rfl, Below.refl _ _⟩
  | false =>
    have hn' : (FloatKind.f64.format.order r r != some .eq) = false := hn
    have b0 := Below.refl w.heap.size w
    cases hrd : Ieee.double.read r with
    | nan s t => exact absurd hrd (nar_nan hn s t)
    | infinity s =>
      have hrf : Ieee.single.read (Ieee.single.write (.infinity s)) = .infinity s := by cases s <;> decide
      have e : narB r = some (Ieee.single.write (.infinity s)) := by unfold narB; rw [if_neg (by rw [hn]; decide), hrd]
      rw [e]
      refine narrow_yes hn' (to32_inf hrd w) (to64_inf hrf w) (neq_eq ?_) b0
      show Ieee.double.order (Ieee.double.write (.infinity s)) r = _
      unfold Ieee.Format.order
      rw [hrd, show Ieee.double.read (Ieee.double.write (.infinity s)) = .infinity s by cases s <;> decide]
      cases s <;> rfl
    | number s m e =>
      cases hi : (Ieee.single.read (Ieee.single.write (.number s m e))).isInfinity with
      | false =>
        cases hf : Ieee.single.read (Ieee.single.write (.number s m e)) with
        | infinity s' => rw [hf] at hi; exact absurd hi (by show ¬ (true = false); decide)
        | nan s' t' =>
          obtain ⟨b, c2, hb⟩ := to64_nan hf w
          have en : narB r = none := narB_none hn hrd hi (by unfold widenE; rw [hf])
          rw [en]
          exact narrow_no hn' (to32_num hrd hi w) c2 (neq_none (hb r)) b0.drew
        | number s' m' e' =>
          by_cases ho : Ieee.double.order (Ieee.double.write (.number s' m' e')) r = some .eq
          · have en : narB r = some (Ieee.single.write (.number s m e)) := by rw [narB_some hn hrd hi (v := Ieee.double.write (.number s' m' e')) (by unfold widenE; rw [hf]), if_pos ho]
            rw [en]
            exact narrow_yes hn' (to32_num hrd hi w) (to64_num hf w) (neq_eq ho) b0
          · have en : narB r = none := by rw [narB_some hn hrd hi (v := Ieee.double.write (.number s' m' e')) (by unfold widenE; rw [hf]), if_neg ho]
            rw [en]
            exact narrow_no hn' (to32_num hrd hi w) (to64_num hf w) (neq_not ho) b0
      | true =>
        have en : narB r = none := by unfold narB; rw [if_neg (by rw [hn]; decide), hrd]; show (if _ then _ else _) = _; rw [if_pos hi]
        rw [en]
        obtain ⟨f, c1⟩ := to32_over hrd hi w
        cases hf : Ieee.single.read f with
        | nan s' t' =>
          obtain ⟨b, c2, hb⟩ := to64_nan hf w.drew
          exact narrow_no hn' c1 c2 (neq_none (hb r)) b0.drew.drew
        | infinity s' =>
          refine narrow_no hn' c1 (to64_inf hf w.drew) (neq_not ?_) b0.drew
          show ¬ Ieee.double.order (Ieee.double.write (.infinity s')) r = _
          unfold Ieee.Format.order
          rw [hrd, show Ieee.double.read (Ieee.double.write (.infinity s')) = .infinity s' by cases s' <;> decide]
          cases s' <;> exact fun h => by cases h
        | number s' m' e' =>
          refine narrow_no hn' c1 (to64_num hf w.drew) (neq_not fun ho => ?_) b0.drew
          have := FloatL.fit_fin (x := r) hr hrd hf ho
          rw [hi] at this
          exact absurd this (by decide)
end Go.Proofs.YteigbejidfkhpaaDoor
