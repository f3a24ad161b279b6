/- Layer 1, second part: the readers, the program's and the reference's. -/
import Derived.Test.YtndklgbjpdlegaaDoorCordA
import Derived.Deep.QuietTactic
import Derived.BigQuiet
namespace Go.Proofs.YtndklgbjpdlegaaDoor
open Go Go.RowKit
set_option linter.unusedSimpArgs false
set_option linter.unusedVariables false

/-- Block R is a reader (type T): l is left, bad. -/
def Rd (T : Nat) (S : Nat → Prop) (w : World) (R : Nat) (l : List UInt8) (bad : Bool) : Prop :=
  ∃ A c, w.heap[R]? = some (.cells #[.slice A l.length c, .bool bad] T (0, 0)) ∧ RB w (.slice A l.length c) l ∧ l.length ≤ 70368744177664 ∧ (∀ a, A = some a → S a.block) ∧ ¬ S R

theorem indexByte_c {w : World} {v : Value} {l : List UInt8} (h : RB w v l) (m : UInt8) :
    Calls Tryd.prog 35 #[v, .int .u8 m.toNat] w fun e w' => e = .returned (.int .i64 (Lib.indexByte l m)) ∧ w' = w := by
  obtain ⟨A, c, rfl, h1, h2, h3, h4, h5⟩ := h
  have hx : ∀ l : List UInt8, Lib.bytesOf (l.map fun b => (b.toNat : Int)) = l := by
    intro l
    induction l with
    | nil => rfl
    | cons b r ih => simp only [List.map_cons, Lib.bytesOf] at ih ⊢; rw [ih]; simp
  have hm : ((m.toNat : Int)).toNat.toUInt8 = m := by simp
  rcases A with _ | a
  · have := h4 rfl
    have hl : l = [] := List.eq_nil_of_length_eq_zero (by omega)
    subst hl
    have hc : c = 0 := h4 rfl
    subst hc
    exact Tryd.bytes_IndexByte_nil _ w
  · have := Tryd.bytes_IndexByte_at a l.length c (l.map fun b => (b.toNat : Int)) (m.toNat : Int) w (by simp) (fun i hi => by
      obtain ⟨a', ha, hc⟩ := h5 i (.int .u8 (l[i]).toNat) (by simp [Lib.byteCells, hi])
      injection ha with ha
      subst ha
      rw [hc]; simp [List.getD_eq_getElem?_getD, hi])
    rw [hx, hm] at this
    exact this

/-- A numeral as it is written. -/
def canonB (l : List UInt8) : Option Int :=
  match Lib.atoiAll l with
  | .ok n => if Lib.itoa n = l then some n else none
  | _ => none
/-- The number up to a mark. -/
def digR (m : UInt8) (l : List UInt8) : Int × Bool × List UInt8 :=
  if Lib.indexByte (l.take 21) m < 0 then (0, false, l)
  else match canonB (l.take (Lib.indexByte (l.take 21) m).toNat) with
    | some n => (n, true, l.drop ((Lib.indexByte (l.take 21) m).toNat + 1))
    | none => (0, false, l)

def atoiV (l : List UInt8) : Int :=
  match Lib.atoiAll l with
  | .ok n => n
  | .range => Lib.atoiSat l
  | _ => 0

theorem bytesWorld_below (w : World) (t : ByteArray) : Below w.heap.size w (Lib.bytesWorld w 5 t) :=
  ⟨rfl, rfl, rfl, by rw [Lib.bytesWorld_size]; omega, fun i hi => Lib.bytesWorld_at_old w 5 t i hi⟩

theorem atoi_ok (l : List UInt8) (hl : l.length ≤ 70368744177664) (n : Int) (h : Lib.atoiAll l = .ok n) (w : World) :
    Calls Tryd.prog 36 #[.string ⟨l.toArray⟩] w fun e w' => e = .returned (.tuple #[.int .i64 n, .nilIface]) ∧ Below w.heap.size w w' :=
  (Tryd.strconv_Atoi_ok ⟨l.toArray⟩ (by rw [str_size]; omega) n h w).mono fun e w' ⟨he, hw⟩ => ⟨he, by
    rcases hw with rfl | ⟨t, rfl⟩
    · exact Below.refl _ _
    · exact bytesWorld_below _ _⟩

theorem atoi_bad (l : List UInt8) (hl : l.length ≤ 70368744177664) (h : ∀ n, Lib.atoiAll l ≠ .ok n) {w : World} (hG : G w) :
    Calls Tryd.prog 36 #[.string ⟨l.toArray⟩] w fun e w' => (∃ N, e = .returned (.tuple #[.int .i64 (atoiV l), .iface 71 (.pointer (some ⟨N, 0, none⟩))])) ∧ Below w.heap.size w w' := by
  by_cases hr : Lib.atoiAll l = .range
  · obtain ⟨tp, p, hv⟩ := hG.rng
    refine (Tryd.strconv_Atoi_range_var ⟨l.toArray⟩ (by rw [str_size]; omega) hr tp p w hv).mono fun e w' ⟨N, he, _, _, hb⟩ => ⟨⟨N, ?_⟩, hb⟩
    rw [he]; simp [atoiV, hr, str_list]
  · obtain ⟨tp, p, hv⟩ := hG.syn
    cases hc : Lib.atoiAll l with
    | ok n => exact absurd hc (h n)
    | range => exact absurd hc hr
    | _ =>
      refine (Any.strconv_Atoi_syntax_var Tryd.laysC172 ⟨l.toArray⟩ (by rw [str_size]; omega) hc tp p w hv).mono fun e w' ⟨N, he, _, _, hb⟩ => ⟨⟨N, ?_⟩, hb⟩
      rw [he]; simp [atoiV, hc]; rfl

theorem indexByte_lt : ∀ (l : List UInt8) (m : UInt8), Lib.indexByte l m < l.length ∧ -1 ≤ Lib.indexByte l m
  | [], m => by simp [Lib.indexByte]
  | b :: l, m => by
    have := indexByte_lt l m
    simp only [Lib.indexByte, List.length_cons]
    split
    · omega
    · split
      · omega
      · rename_i h; simp at h; omega
end Go.Proofs.YtndklgbjpdlegaaDoor
