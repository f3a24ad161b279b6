/- From a row's data to the walks' facts: bytes, ints, strings in a slice. -/
import Derived.Test.YtfpdmgmolhddnaaDoorBase
import Derived.WalkKit
import Derived.ProofKit
import Derived.OpenShut
import Derived.SizedLaws
import Derived.ChangeSlices
namespace Go.Proofs.YtfpdmgmolhddnaaDoor
open Go Go.RowKit
open Go.ChangeShapes Go.WideShapes
set_option linter.unusedSimpArgs false
set_option linter.unusedVariables false

def I64 (ns : List Int) : Prop := ∀ n ∈ ns, -9223372036854775808 ≤ n ∧ n ≤ 9223372036854775807
/-- v reads as the ints ns. -/
def RI (w : World) (v : Value) (ns : List Int) : Prop := RC w v ns.length 1 (ns.map (Value.int .i64))

section
variable {H : Type} {enc : TypeId × Value → H} {P : Program} {W : World} {base : Nat} {t e : TypeId} {v : Value} {d : DataW H} {ps : List MemPlace} {ts : List TypeId} {ds : List (DataW H)}

/-- A slice of whole numbers that came in. -/
theorem open_nums {k : IntKind} (hu : P.underlying t = some (.slice e)) (he : P.underlying e = some (.int k)) (hv : Value.okWide P W .any base t v) (h : DataW.Trod enc P W 0 (fun _ => true) true t v d ps) (hc : P.cellsOf e = 1)
    (hsz : (DataW.weightsEach P ts ds).all (· ≤ reachBytes) = true) (j : Nat) (ht : ts[j]? = some t) (hd : ds[j]? = some d) :
    ∃ zs : List Int, RC W v zs.length 1 (zs.map (Value.int k)) ∧ (∀ n ∈ zs, (Lit.int k n).wf = true) ∧ zs.length * P.bytesOf e ≤ 140737488351232 := by
  obtain ⟨a, len, cap, rfl⟩ := okWide_slice hu hv
  obtain ⟨fuel, hf⟩ := h
  rcases open_ints hu he hc hf with ⟨hcs, _⟩ | ⟨x, l, c, zs, hcs, _, hl, hm, hz, hx, hcell, hwz⟩
  · simp [Value.cells] at hcs
    obtain ⟨rfl, rfl, rfl⟩ := hcs
    refine ⟨[], ⟨none, 0, rfl, Nat.le_refl _, by omega, rfl, fun _ => rfl, fun j u hu => ?_⟩, fun n hn => absurd hn (by simp), by simp⟩
    simp at hu
  · simp [Value.cells] at hcs
    obtain ⟨rfl, rfl, rfl⟩ := hcs
    simp only [if_true] at hz
    obtain ⟨hx, _⟩ := Prod.mk.inj hx
    subst hx
    have z := sized_slice hsz ht hd hu
    have h1 : (lits (H := H) k (zs.take len)).length + (lits (H := H) k (zs.drop len)).length = zs.length := by
      simp [lits]
      omega
    rw [h1] at z
    have hlen : (zs.take len).length = len := by rw [List.length_take]; omega
    refine ⟨zs.take len, ?_, fun n hn => hwz n (List.mem_of_mem_take hn), ?_⟩
    · rw [hlen]
      refine ⟨some x, cap, rfl, hl, by simpa [maxLen] using hm, by simp; omega, (fun h => by cases h), fun q u hq => ⟨x, rfl, ?_⟩⟩
      rw [List.getElem?_map] at hq
      obtain ⟨n, hn, rfl⟩ := Option.map_eq_some_iff.1 hq
      have hql : q < zs.length := by
        have := (List.getElem?_eq_some_iff.1 hn).1
        rw [hlen] at this
        omega
      rw [hcell q hql]
      rw [List.getElem?_take] at hn
      split at hn
      · rw [List.getD_eq_getElem?_getD, hn]; rfl
      · cases hn
    · rw [hlen]
      refine Nat.le_trans (Nat.mul_le_mul_right _ ?_) z
      omega
end

theorem wf_u8 {n : Int} (h : (Lit.int .u8 n).wf = true) : 0 ≤ n ∧ n ≤ 255 := by
  have e1 : IntKind.u8.min = 0 := rfl
  have e2 : IntKind.u8.max = 255 := rfl
  simp [Lit.wf, e1, e2] at h
  omega
theorem wf_i64 {n : Int} (h : (Lit.int .i64 n).wf = true) : -9223372036854775808 ≤ n ∧ n ≤ 9223372036854775807 := by
  have e1 : IntKind.i64.min = -9223372036854775808 := rfl
  have e2 : IntKind.i64.max = 9223372036854775807 := rfl
  simp [Lit.wf, e1, e2] at h
  omega

theorem bytes_of_nums : ∀ (zs : List Int), (∀ n ∈ zs, (Lit.int .u8 n).wf = true) → zs.map (Value.int .u8) = Lib.byteCells (zs.map fun n => UInt8.ofNat n.toNat)
  | [], _ => rfl
  | n :: r, h => by
    have ih := bytes_of_nums r (fun x hx => h x (by simp [hx]))
    have hn := wf_u8 (h n (by simp))
    simp only [List.map_cons, Lib.byteCells] at ih ⊢
    rw [ih]
    congr 2
    simp
    omega

section
variable {H : Type} {enc : TypeId × Value → H} {W : World} {base : Nat} {t : TypeId} {v : Value} {d : DataW H} {ps : List MemPlace} {ts : List TypeId} {ds : List (DataW H)}
set_option maxRecDepth 100000 in
theorem open_bytes {e : TypeId} (hu : Tryd.prog.underlying t = some (.slice e)) (he : Tryd.prog.underlying e = some (.int .u8)) (hv : Value.okWide Tryd.prog W .any base t v) (h : DataW.Trod enc Tryd.prog W 0 (fun _ => true) true t v d ps) (hc : Tryd.prog.cellsOf e = 1 ∧ Tryd.prog.bytesOf e = 1)
    (hsz : (DataW.weightsEach Tryd.prog ts ds).all (· ≤ reachBytes) = true) (j : Nat) (ht : ts[j]? = some t) (hd : ds[j]? = some d) :
    ∃ l : List UInt8, RB W v l ∧ l.length ≤ 140737488351232 := by
  obtain ⟨zs, h1, h2, h3⟩ := open_nums hu he hv h hc.1 hsz j ht hd
  refine ⟨zs.map fun n => UInt8.ofNat n.toNat, ?_, ?_⟩
  · rw [bytes_of_nums zs h2] at h1
    unfold RB
    simpa using h1
  · rw [hc.2] at h3
    simpa using h3
set_option maxRecDepth 100000 in
theorem open_intl {e : TypeId} (hu : Tryd.prog.underlying t = some (.slice e)) (he : Tryd.prog.underlying e = some (.int .i64)) (hv : Value.okWide Tryd.prog W .any base t v) (h : DataW.Trod enc Tryd.prog W 0 (fun _ => true) true t v d ps) (hc : Tryd.prog.cellsOf e = 1 ∧ Tryd.prog.bytesOf e = 8)
    (hsz : (DataW.weightsEach Tryd.prog ts ds).all (· ≤ reachBytes) = true) (j : Nat) (ht : ts[j]? = some t) (hd : ds[j]? = some d) :
    ∃ ns : List Int, RI W v ns ∧ I64 ns ∧ ns.length ≤ 140737488351232 := by
  obtain ⟨zs, h1, h2, h3⟩ := open_nums hu he hv h hc.1 hsz j ht hd
  refine ⟨zs, h1, fun n hn => wf_i64 (h2 n hn), ?_⟩
  rw [hc.2] at h3
  omega
end
end Go.Proofs.YtfpdmgmolhddnaaDoor
