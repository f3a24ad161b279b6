/- Layer 18: the head of a frame, plainly; ends of walks. -/
import Derived.Test.YtfpdmgmolhddnaaDoorSfF
namespace Go.Proofs.YtfpdmgmolhddnaaDoor
open Go Go.RowKit Go.Sort
open Go.ChangeShapes Go.WideShapes Go.Deep
set_option linter.unusedSimpArgs false
set_option linter.unusedVariables false

/-! ### a command, by its bytes -/
theorem dw_nil' (p : UInt8 → Bool) : ∀ l : List UInt8, l.all p = true → l.dropWhile p = []
  | [], _ => rfl
  | a :: r, h => by
    rw [List.all_cons, Bool.and_eq_true] at h
    rw [List.dropWhile_cons_of_pos h.1]
    exact dw_nil' p r h.2
theorem dw_some' (p : UInt8 → Bool) : ∀ l : List UInt8, l.all p = false → ∃ c r, l.dropWhile p = c :: r ∧ p c = false
  | [], h => by cases h
  | a :: r, h => by
    cases ha : p a with
    | true =>
      rw [List.dropWhile_cons_of_pos ha]
      rw [List.all_cons, ha, Bool.true_and] at h
      exact dw_some' p r h
    | false => exact ⟨a, r, List.dropWhile_cons_of_neg (by rw [ha]; decide), ha⟩
theorem trim_all' (l cs : List UInt8) : (Lib.trimS l cs).isEmpty = l.all (cs.contains ·) := by
  unfold Lib.trimS Lib.trimLeftS Lib.trimRightS
  cases h : l.all (cs.contains ·) with
  | true =>
    rw [dw_nil' _ l.reverse (by rw [List.all_reverse]; exact h)]
    rfl
  | false =>
    obtain ⟨c, r, h1, h2⟩ := dw_some' (cs.contains ·) l.reverse (by rw [List.all_reverse]; exact h)
    rw [h1]
    obtain ⟨d, q, h3, _⟩ := dw_some' (cs.contains ·) (c :: r).reverse (by rw [List.all_reverse, List.all_cons, h2]; rfl)
    rw [h3]
    rfl
theorem caps_all : (List.range 256).all (fun n => capsB.data.toList.contains (UInt8.ofNat n) == (decide (65 ≤ n) && decide (n ≤ 90))) = true := by decide +kernel
theorem caps_eq (c : UInt8) : capsB.data.toList.contains c = (decide (65 ≤ c.toNat) && decide (c.toNat ≤ 90)) := by
  have h := List.all_eq_true.1 caps_all c.toNat (List.mem_range.2 (UInt8.toNat_lt c))
  rw [UInt8.ofNat_toNat] at h
  exact eq_of_beq h
theorem com_eq (l : L8) : comB ⟨l.toArray⟩ = commandP l := by
  unfold comB commandP
  rw [str_sz, str_ls, trim_all']
  congr 1
  · congr 1
    by_cases h : l = []
    · subst h; rfl
    · rw [decide_eq_true h, decide_eq_true (show 0 < l.length from List.length_pos_iff.2 h)]
  · exact congrArg (fun f => l.all f) (funext caps_eq)
def headP (s : L8) : Option (Option (L8 × List (L8 × L8) × L8)) :=
  match linesP s with
  | none => some none
  | some ([], _) => none
  | some (c :: ls, r) => if ls.length ≤ 32 ∧ commandP c = true then (match headersP (plainP c) ls with | none => none | some hs => some (some (c, hs, r))) else none
theorem whole_head (num : L8 → Option Nat) (s : L8) : wholeP num s = match headP s with | none => none | some none => some none | some (some (c, hs, r)) => bodyP ⟨c, hs, []⟩ (sizeP num hs) r := by
  unfold wholeP headP
  cases linesP s with
  | none => rfl
  | some p =>
    obtain ⟨ls, r⟩ := p
    cases ls with
    | nil => rfl
    | cons c ls =>
      simp only
      split
      · cases headersP (plainP c) ls <;> rfl
      · rfl
def aheadL (acc : List L8) (o : Option (List L8 × L8)) : Option (List L8 × L8) := match o with | none => none | some (ls, q) => some (acc ++ ls, q)
theorem aheadL_step (acc : List L8) (x : L8) (o : Option (List L8 × L8)) : aheadL acc (match o with | none => none | some (ls, q) => some (x :: ls, q)) = aheadL (acc ++ [x]) o := by
  cases o with
  | none => rfl
  | some p => simp [aheadL]
def aheadH (acc : List (L8 × L8)) (o : Option (List (L8 × L8))) : Option (List (L8 × L8)) := match o with | none => none | some r => some (acc ++ r)
theorem headers_cons (pl : Bool) (l : L8) (t : List L8) : headersP pl (l :: t) = match headerP pl l with | none => none | some h => match headersP pl t with | none => none | some hs => some (h :: hs) := rfl
theorem headers_step {pl : Bool} {l : L8} {t : List L8} {acc : List (L8 × L8)} {h : L8 × L8} (e : headerP pl l = some h) : aheadH acc (headersP pl (l :: t)) = aheadH (acc ++ [h]) (headersP pl t) := by
  rw [headers_cons, e]
  cases headersP pl t <;> simp [aheadH]
theorem headers_bad {pl : Bool} {l : L8} {t : List L8} {acc : List (L8 × L8)} (e : headerP pl l = none) : aheadH acc (headersP pl (l :: t)) = none := by
  rw [headers_cons, e]; rfl

/-! ### rows of texts and of headers; results -/
def sC (l : List L8) : List Value := l.map (fun x => .string ⟨x.toArray⟩)
theorem sC_len (l : List L8) : (sC l).length = l.length := by unfold sC; rw [List.length_map]
theorem sC_app (l m : List L8) : sC (l ++ m) = sC l ++ sC m := by unfold sC; rw [List.map_append]
theorem sC_one (l : List L8) : ∀ y ∈ sC l, y.oneCell' = true := fun y hy => by
  obtain ⟨n, _, rfl⟩ := List.mem_map.1 hy
  rfl
theorem hC_one (l : List (L8 × L8)) : ∀ y ∈ l.flatMap hdC, y.oneCell' = true := fun y hy => by
  obtain ⟨x, _, hx⟩ := List.mem_flatMap.1 hy
  simp only [hdC, List.mem_cons, List.not_mem_nil, or_false] at hx
  rcases hx with rfl | rfl <;> rfl
theorem info_str : (Tryd.prog.info? 9).map (fun i => (i.zero, i.size, i.bytes)) = some (some (.string ⟨#[]⟩), 1, 16) := by kernel_rfl
theorem info_hd : (Tryd.prog.info? 32).map (fun i => (i.zero, i.size, i.bytes)) = some (some (.agg #[.string ⟨#[]⟩, .string ⟨#[]⟩]), 2, 32) := by kernel_rfl
def OS (w : World) (base : Nat) (v : Value) (l : List L8) : Prop := w.ownsRow base 9 1 v l.length (sC l)
def OH (w : World) (base : Nat) (v : Value) (l : List (L8 × L8)) : Prop := w.ownsRow base 32 2 v l.length (l.flatMap hdC)
theorem os_lit {w : World} {base : Nat} {v : Value} {l : List L8} (h : OS w base v l) : ∃ A c, v = .slice A l.length c := rc_any' (own_rc h)
theorem oh_lit {w : World} {base : Nat} {v : Value} {l : List (L8 × L8)} (h : OH w base v l) : ∃ A c, v = .slice A l.length c := rc_any' (own_rc h)
theorem oh_rhd {w : World} {base : Nat} {v : Value} {l : List (L8 × L8)} (h : OH w base v l) : RHd w v l := own_rc h
theorem os_snoc {w : World} {base : Nat} {v : Value} {l : List L8} {x : L8} (h : w.ownsRow base 9 1 v (l.length + 1) (sC l ++ sC [x])) : OS w base v (l ++ [x]) := by
  unfold OS
  rw [List.length_append, List.length_singleton, sC_app]
  exact h
theorem oh_snoc {w : World} {base : Nat} {v : Value} {l : List (L8 × L8)} {x : L8 × L8} (h : w.ownsRow base 32 2 v (l.length + 1) (l.flatMap hdC ++ [x].flatMap hdC)) : OH w base v (l ++ [x]) := by
  unfold OH
  rw [List.length_append, List.length_singleton, List.flatMap_append]
  exact h
theorem s_one (w : World) (x : L8) : RC (w.alloc (.cells #[.string ⟨x.toArray⟩] 9)) (.slice (some ⟨w.heap.size, 0, none⟩) 1 1) 1 1 (sC [x]) :=
  rc_new w 9 1 1 (sC [x]) rfl (by omega)
theorem h_one (w : World) (x : L8 × L8) : RC (w.alloc (.cells #[.string ⟨x.1.toArray⟩, .string ⟨x.2.toArray⟩] 32)) (.slice (some ⟨w.heap.size, 0, none⟩) 1 1) 1 2 ([x].flatMap hdC) :=
  rc_new w 32 1 2 ([x].flatMap hdC) rfl (by omega)
theorem rs_cell {w : World} {A : Option Addr} {n c : Nat} {l : List L8} (h : RC w (.slice A n c) l.length 1 (sC l)) (j : Nat) (x : L8) (hx : l[j]? = some x) : ∃ a, A = some a ∧ w.cell? (a.add j) = some (.string ⟨x.toArray⟩) := by
  obtain ⟨A', c', he, _, _, _, _, h5⟩ := h
  injection he with e1 e2 e3
  subst e1
  exact h5 j _ (by simp [sC, hx])
/-- What stands behind the first text. -/
theorem rs_tail {A : Option Addr} {c : Nat} (x : L8) (ns : List L8) (hc : ns.length + 1 ≤ c) :
    ∃ A' : Option Addr, (∀ W : World, (Instr.slice 45 (.slice A (ns.length + 1) c) (some (.int .i64 1)) none none).run Tryd.prog W = .ok (.slice A' ns.length (c - 1)) W) ∧
      (∀ w : World, RC w (.slice A (ns.length + 1) c) (ns.length + 1) 1 (sC (x :: ns)) → RC w (.slice A' ns.length (c - 1)) ns.length 1 (sC ns)) := by
  obtain ⟨i, hi, hzz⟩ := Option.map_eq_some_iff.1 info_str
  simp only [Prod.mk.injEq] at hzz
  obtain ⟨A', h1, h2, h3⟩ := rc_drop (P := Tryd.prog) Tryd.underlying45 hi A (ns.length + 1) c hc 1 (by omega) (by omega)
  rw [hzz.2.1] at h2
  refine ⟨A', ?_, ?_⟩
  · simpa using h1
  · intro w h
    have := h2 w (sC (x :: ns)) h
    simpa [sC] using this
theorem results_cell_uv {P : Program} {fn : Func} {p u v : Tmp} {ty : TypeId} (h : fn.results = #[.cell p ty, .tmp u, .tmp v]) (tmps : Array Value) (w : World) (g : Nat) (t : TypeId) (cs : Array Value) (fr : Nat × Nat) (d : TypeDesc)
    (hp : tmps.getD p undef = .pointer (some ⟨g, 0, none⟩)) (hg : w.heap[g]? = some (.cells cs t fr))
    (hu : P.underlying ty = some d) (hd : (match d with | .struct _ | .array _ _ => true | _ => false) = true) (hi : (P.info? ty).map (·.size) = some cs.size) :
    (results fn tmps).run P w = .ok (.tuple #[.agg cs, tmps.getD u undef, tmps.getD v undef]) w := by
  have hp' : tmps[p]?.getD undef = .pointer (some ⟨g, 0, none⟩) := by simpa using hp
  simp [results, h, hp', asAddr, run_loadVar_row w g t ty cs fr d hg hu hd hi]
theorem cells3_at {w : World} {g : Nat} {t : TypeId} {c0 c1 c2 : Value} {fr : Nat × Nat} (h : w.heap[g]? = some (.cells #[c0, c1, c2] t fr)) (a b c : Value) : (((w.setCell ⟨g, 0, none⟩ a).setCell ⟨g, 1, none⟩ b).setCell ⟨g, 2, none⟩ c).heap[g]? = some (.cells #[a, b, c] t fr) := by
  simp [World.setCell, Array.getElem?_modify, h]
theorem grown3 (w : World) (g : Nat) (a b c : Value) : w.grownBy (((w.setCell ⟨g, 0, none⟩ a).setCell ⟨g, 1, none⟩ b).setCell ⟨g, 2, none⟩ c) (some g) :=
  grownBy_trans (grownBy_trans (grownBy_set _ _ _ _) (grownBy_set _ _ _ _)) (grownBy_set _ _ _ _)
theorem below3 {B : Nat} {w w1 : World} (h : Below B w w1) {g : Nat} (hg : B ≤ g) (a b c : Value) : Below B w (((w1.setCell ⟨g, 0, none⟩ a).setCell ⟨g, 1, none⟩ b).setCell ⟨g, 2, none⟩ c) :=
  ((h.setCell (p := ⟨g, 0, none⟩) hg a).setCell (p := ⟨g, 1, none⟩) hg b).setCell (p := ⟨g, 2, none⟩) hg c
theorem sf_end {fn : Func} {p u v : Tmp} (h : fn.results = #[.cell p 25, .tmp u, .tmp v]) {R : Ending → World → Prop} {a : Act} {w : World} {g : Nat} {t : TypeId} {c0 c1 c2 : Value} {fr : Nat × Nat} (d0 d1 d2 : Value)
    (hg : w.heap[g]? = some (.cells #[c0, c1, c2] t fr)) (hp : a.tmps.getD p undef = .pointer (some ⟨g, 0, none⟩)) (hd : a.defers = [])
    (hR : R (.returned (.tuple #[.agg #[d0, d1, d2], a.tmps.getD u undef, a.tmps.getD v undef])) (((w.setCell ⟨g, 0, none⟩ d0).setCell ⟨g, 1, none⟩ d1).setCell ⟨g, 2, none⟩ d2)) : bodyPost Tryd.prog fn R .ret a (((w.setCell ⟨g, 0, none⟩ d0).setCell ⟨g, 1, none⟩ d1).setCell ⟨g, 2, none⟩ d2) :=
  bodyPost_ret (results_cell_uv h _ _ g t _ fr _ hp (cells3_at hg d0 d1 d2) Tryd.underlying25 rfl (by kernel_rfl)) hd hR
theorem own_lt' {w : World} {B e s n : Nat} {v : Value} {xs : List Value} (h : w.ownsRow B e s v n xs) {k : Nat} (hk : v.ownBlock = some k) : k < w.heap.size := by
  rcases h.2 with ⟨rfl, _⟩ | ⟨g, cap, cur, rfl, _, hg, _⟩
  · cases hk
  · injection hk with hk
    have e' : g = k := hk
    subst e'
    exact (Array.getElem?_eq_some_iff.1 hg).1
/-- What head answers. -/
def HPost (o : Option (Option (L8 × List (L8 × L8) × L8))) (w : World) (e : Ending) (w' : World) : Prop :=
  Below w.heap.size w w' ∧ match o with
  | none => e = StopS
  | some none => e = .returned (.tuple #[.agg #[.string ⟨#[]⟩, .slice none 0 0, .string ⟨#[]⟩], .string ⟨#[]⟩, .bool false])
  | some (some (c, hs, r)) => ∃ A cp, e = .returned (.tuple #[.agg #[.string ⟨c.toArray⟩, .slice A hs.length cp, .string ⟨#[]⟩], .string ⟨r.toArray⟩, .bool true]) ∧ OH w' w.heap.size (.slice A hs.length cp) hs
theorem hpost_stop {w w' : World} (b : Below w.heap.size w w') : HPost none w StopS w' := ⟨b, rfl⟩
theorem hpost_more {w w' : World} (b : Below w.heap.size w w') : HPost (some none) w (.returned (.tuple #[.agg #[.string ⟨#[]⟩, .slice none 0 0, .string ⟨#[]⟩], .string ⟨#[]⟩, .bool false])) w' := ⟨b, rfl⟩
theorem hpost_some {c r : L8} {hs : List (L8 × L8)} {A : Option Addr} {cp : Nat} {w w' : World} (b : Below w.heap.size w w') (h : OH w' w.heap.size (.slice A hs.length cp) hs) : HPost (some (some (c, hs, r))) w (.returned (.tuple #[.agg #[.string ⟨c.toArray⟩, .slice A hs.length cp, .string ⟨#[]⟩], .string ⟨r.toArray⟩, .bool true])) w' := ⟨b, A, cp, rfl, h⟩
theorem below_lower {w w1 : World} {B C : Nat} (h : Below B w w1) (hc : C ≤ B) : Below C w w1 := ⟨h.os, h.tape, h.output, h.size, fun k hk => h.block k (Nat.lt_of_lt_of_le hk hc)⟩
end Go.Proofs.YtfpdmgmolhddnaaDoor
