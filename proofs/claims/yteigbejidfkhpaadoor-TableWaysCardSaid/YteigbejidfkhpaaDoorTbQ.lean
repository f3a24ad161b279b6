/- Layer 15: words for table.Encode: a string's iterator beside bytes; tails of slices. -/
import Derived.Test.YteigbejidfkhpaaDoorTbS
import Derived.Test.YteigbejidfkhpaaDoorTbL
import Derived.WalkSmall
import Derived.Lib.OthersKept
namespace Go.Proofs.YteigbejidfkhpaaDoor
open Go Go.RowKit
set_option linter.unusedSimpArgs false
set_option linter.unusedVariables false

/-- Blocks other than bytes stay. -/
def KeepsO (w w' : World) : Prop := ∀ (b : Nat) (o : Obj), (∀ (cs : Array Value) (fr : Nat × Nat), o ≠ .cells cs 5 fr) → w.heap[b]? = some o → w'.heap[b]? = some o
theorem KeepsO.refl (w : World) : KeepsO w w := fun _ _ _ h => h
theorem KeepsO.trans {a b c : World} (h : KeepsO a b) (k : KeepsO b c) : KeepsO a c := fun x o ho hx => k x o ho (h x o ho hx)
theorem keepsO_alloc (w : World) (o : Obj) : KeepsO w (w.alloc o) := fun b o' _ h => by
  rw [heap_alloc_old _ _ (Array.getElem?_eq_some_iff.1 h).1]
  exact h
theorem keepsO_grown {w w1 : World} {base : Nat} {v : Value} {l : List UInt8} (h : OB w base v l) (hg : w.grownBy w1 v.ownBlock) : KeepsO w w1 := fun b o ho hb => by
  rw [hg.block b (Array.getElem?_eq_some_iff.1 hb).1 (fun e => ?_)]
  · exact hb
  · rcases h.2 with ⟨rfl, _⟩ | ⟨g, cap, cur, rfl, _, hgc, _⟩
    · cases e
    · injection e with e
      have e' : b = g := e
      subst e'
      rw [hb] at hgc
      injection hgc with hgc
      exact ho _ _ hgc
theorem keepsO_below {w w1 : World} (h : Below w.heap.size w w1) : KeepsO w w1 := fun b o _ hb => by
  rw [h.block b (Array.getElem?_eq_some_iff.1 hb).1]
  exact hb
theorem iter_keeps {w w1 : World} {b pos : Nat} {s : ByteArray} (h : w.heap[b]? = some (.stringIter s pos)) (k : KeepsO w w1) : w1.heap[b]? = some (.stringIter s pos) := k b _ (fun _ _ e => by cases e) h
/-- Block b is the method. -/
def MB (w : World) (b : Nat) (c i : Int) (vn vt vp : Value) : Prop := w.heap[b]? = some (.cells #[.int .i64 c, .int .i64 i, vn, vt, vp] 26 (0, 0))
theorem mb_keeps {w w1 : World} {b : Nat} {c i : Int} {vn vt vp : Value} (h : MB w b c i vn vt vp) (k : KeepsO w w1) : MB w1 b c i vn vt vp := k b _ (fun _ _ e => by injection e with _ e2 _; exact absurd e2 (by decide)) h
theorem mb_new (w : World) (c i : Int) (vn vt vp : Value) : MB (w.alloc (.cells #[.int .i64 c, .int .i64 i, vn, vt, vp] 26)) w.heap.size c i vn vt vp := heap_alloc_new w _
theorem mb_facts {w : World} {b : Nat} {c i : Int} {vn vt vp : Value} (h : MB w b c i vn vt vp) : w.cell? ⟨b, 0, none⟩ = some (.int .i64 c) ∧ w.cell? ⟨b, 1, none⟩ = some (.int .i64 i) ∧ w.cell? ⟨b, 2, none⟩ = some vn ∧ w.cell? ⟨b, 3, none⟩ = some vt ∧ w.cell? ⟨b, 4, none⟩ = some vp := by
  refine ⟨?_, ?_, ?_, ?_, ?_⟩ <;> simp [World.cell?, show w.heap[b]? = _ from h]

set_option maxRecDepth 100000 in
set_option maxHeartbeats 1000000 in
theorem bigO_c {w : World} {base : Nat} {v : Value} {l : List UInt8} (h : OB w base v l) (hB : base ≤ w.heap.size) (hl : l.length ≤ 70368744177664) (n : Nat) (hn : n < 18446744073709551616) (k : Nat) (hk : k ≤ 8) :
    Calls Tryd.prog 28 #[v, .int .u64 n, .int .i64 k] w fun e w' => ∃ v', e = .returned v' ∧ OB w' base v' (l ++ beB n k) ∧ Below base w w' ∧ KeepsO w w' := by
  have H := Lib.hid h
  clear h
  go_enter Tryd.func28, Tryd.ntmps28
  go_wp2
  go_loopw [0, 7] (fun x i wr => ∃ (r : Nat) (pre : List UInt8), r ≤ k ∧ i = .int .i64 ((r : Int) - 1) ∧ Hid (pre ++ beB n r = beB n k) ∧ Hid (OB wr base x (l ++ pre)) ∧ Hid (KeepsO w wr) ∧ Below base w wr) (fun _ i _ => (intOf i + 1).toNat)
  case atStart => exact ⟨k, [], Nat.le_refl _, rfl, Lib.hid rfl, by simpa [Lib.hid] using H, Lib.hid (KeepsO.refl _), Below.refl _ _⟩
  case round =>
    obtain ⟨r, pre, hr, rfl, HP, O2, HK, b2⟩ := hrel
    cases r with
    | zero =>
      go_wp2
      go_ret
      have := HP.out
      simp only [beB, List.append_nil] at this
      exact ⟨_, rfl, by rw [← this]; exact O2.out, b2, HK.out⟩
    | succ r =>
      have hpl : pre.length ≤ 8 := by
        have := congrArg List.length HP.out
        rw [List.length_append, beB_len, beB_len] at this
        omega
      go_wp2_with (at_builtin; refine app_b (w0 := w) (base := base) (l := l ++ pre) (m := [dig n r]) rfl (.tmp 14) (.tmp 20) rfl rfl rfl (O2.out.alloc _) (rb_dig wr _ _ (dig_val n r)) (b2.alloc (by have := b2.size; omega) _) (by have := b2.size; simp; omega) (by simp; omega) ?_; intro v4 w4 o4 b4 g4 _; have HK4 := Lib.hid ((HK.out.trans (keepsO_alloc _ _)).trans (keepsO_grown (O2.out.alloc _) g4)); have O4 := Lib.hid o4; clear o4 g4)
      go_roundw
      case rel => exact ⟨r, pre ++ [dig n r], by omega, by go_num, Lib.hid (by have := HP.out; simpa [beB] using this), Lib.hid (by have := O4.out; rwa [List.append_assoc] at this), HK4, b4⟩
      case measure => simp [intOf]

theorem bigO_c2 {w : World} {base : Nat} {v : Value} {l : List UInt8} (h : OB w base v l) (hB : base ≤ w.heap.size) (hl : l.length ≤ 70368744177664) (n k : Nat) (hn : n < 18446744073709551616) (hk : k ≤ 8) (ni ki : Int) (hni : ni = (n : Int)) (hki : ki = (k : Int)) :
    Calls Tryd.prog 28 #[v, .int .u64 ni, .int .i64 ki] w fun e w' => ∃ v', e = .returned v' ∧ OB w' base v' (l ++ beB n k) ∧ Below base w w' ∧ KeepsO w w' := by
  subst hni hki
  exact bigO_c h hB hl n hn k hk

theorem ri_head {w : World} {A : Option Addr} {c n : Nat} {x : Int} {ns : List Int} (h : RI w (.slice A n c) (x :: ns)) : ∃ a, A = some a ∧ w.cell? a = some (.int .i64 x) := by
  obtain ⟨A', c', he, h1, h2, h3, h4, h5⟩ := h
  injection he with e1 e2 e3
  subst e1
  obtain ⟨a, ha, hc⟩ := h5 0 (.int .i64 x) (by simp)
  exact ⟨a, ha, by rwa [show a.add 0 = a by unfold Addr.add; simp] at hc⟩
theorem rs_head {w : World} {A : Option Addr} {c n : Nat} {x : ByteArray} {ns : List ByteArray} (h : RS w (.slice A n c) (x :: ns)) : ∃ a, A = some a ∧ w.cell? a = some (.string x) := by
  obtain ⟨A', c', he, h1, h2, h3, h4, h5⟩ := h
  injection he with e1 e2 e3
  subst e1
  obtain ⟨a, ha, hc⟩ := h5 0 (.string x) (by simp)
  exact ⟨a, ha, by rwa [show a.add 0 = a by unfold Addr.add; simp] at hc⟩
theorem info_i64 : (Tryd.prog.info? 3).map (fun i => (i.zero, i.size, i.bytes)) = some (some (.int .i64 0), 1, 8) := by kernel_rfl
theorem info_str : (Tryd.prog.info? 9).map (fun i => (i.zero, i.size, i.bytes)) = some (some (.string ByteArray.empty), 1, 16) := by kernel_rfl
theorem ri_tail {A : Option Addr} {c : Nat} {x : Int} {ns : List Int} (w : World) (h : RI w (.slice A (ns.length + 1) c) (x :: ns)) : ∃ A', (∀ W : World, (Instr.slice 22 (.slice A (ns.length + 1) c) (some (.int .i64 1)) none none).run Tryd.prog W = .ok (.slice A' ns.length (c - 1)) W) ∧ RI w (.slice A' ns.length (c - 1)) ns ∧ ns.length ≤ c - 1 := by
  obtain ⟨i0, hi, hzz⟩ := Option.map_eq_some_iff.1 info_i64
  simp only [Prod.mk.injEq] at hzz
  obtain ⟨hz0, hz1, hz2⟩ := hzz
  have hc : ns.length + 1 ≤ c := by
    obtain ⟨A', c', he, h1, _⟩ := h
    injection he with e1 e2 e3
    subst e3
    simpa using h1
  obtain ⟨A', h1, h2, h3⟩ := rc_drop (P := Tryd.prog) Tryd.underlying22 hi A (ns.length + 1) c hc 1 (by omega) (by omega)
  refine ⟨A', h1, ?_, by omega⟩
  have := h2 w _ (by rw [hz1]; exact h)
  rw [hz1] at this
  exact this
theorem rs_tail {A : Option Addr} {c : Nat} {x : ByteArray} {ns : List ByteArray} (w : World) (h : RS w (.slice A (ns.length + 1) c) (x :: ns)) : ∃ A', (∀ W : World, (Instr.slice 23 (.slice A (ns.length + 1) c) (some (.int .i64 1)) none none).run Tryd.prog W = .ok (.slice A' ns.length (c - 1)) W) ∧ RS w (.slice A' ns.length (c - 1)) ns ∧ ns.length ≤ c - 1 := by
  obtain ⟨i0, hi, hzz⟩ := Option.map_eq_some_iff.1 info_str
  simp only [Prod.mk.injEq] at hzz
  obtain ⟨hz0, hz1, hz2⟩ := hzz
  have hc : ns.length + 1 ≤ c := by
    obtain ⟨A', c', he, h1, _⟩ := h
    injection he with e1 e2 e3
    subst e3
    simpa using h1
  obtain ⟨A', h1, h2, h3⟩ := rc_drop (P := Tryd.prog) Tryd.underlying23 hi A (ns.length + 1) c hc 1 (by omega) (by omega)
  refine ⟨A', h1, ?_, by omega⟩
  have := h2 w _ (by rw [hz1]; exact h)
  rw [hz1] at this
  exact this

theorem own_iterAt {w : World} {B e size n : Nat} {v : Value} {xs : List Value} {k : Nat} {s : ByteArray} {pos : Nat} (h : w.ownsRow B e size v n xs) (hk : w.heap[k]? = some (.stringIter s pos)) (pos' : Nat) : (w.iterAt k s pos').ownsRow B e size v n xs := by
  refine ⟨h.1, ?_⟩
  rcases h.2 with h0 | ⟨g, cap, cur, hv, hb, hg, rest⟩
  · exact .inl h0
  · refine .inr ⟨g, cap, cur, hv, hb, ?_, rest⟩
    rw [Lib.iterAt_other _ _ _ _ _ (fun e => by subst e; rw [hk] at hg; cases hg)]
    exact hg
theorem mb_iterAt {w : World} {b k pos : Nat} {s : ByteArray} {c i : Int} {vn vt vp : Value} (h : MB w b c i vn vt vp) (hk : w.heap[k]? = some (.stringIter s pos)) (pos' : Nat) : MB (w.iterAt k s pos') b c i vn vt vp := by
  unfold MB at h ⊢
  rw [Lib.iterAt_other _ _ _ _ _ (fun e => by subst e; rw [hk] at h; cases h)]
  exact h

theorem ite_some {p : Prop} [Decidable p] {X : Type} {x f : X} {t : Option X} {P : X → Prop} (h : (if p then some x else t) = some f) (hx : P x) (ht : t = some f → P f) : P f := by
  by_cases hp : p
  · rw [if_pos hp] at h
    injection h with h
    rwa [← h]
  · rw [if_neg hp] at h
    exact ht h
def SmallF (f : ByteArray) : Prop := f.size ≤ 6 ∧ f.data.toList.all (fun x => decide (x.toNat < 128)) = true
/-- Every form is short, and ASCII. -/
theorem form_small {c i : Int} {f : ByteArray} (h : formCI c i = some f) : SmallF f := by
  unfold formCI at h
  split at h
  · unfold formOf at h
    repeat (refine ite_some (P := SmallF) h ⟨by decide, by decide⟩ ?_; clear h; intro h)
    cases h
  · cases h

/-- What Encode answers. -/
def EncM (w : World) (total : Option (List UInt8)) (e : Ending) (w' : World) : Prop :=
  Below w.heap.size w w' ∧ match total with
    | some l => ∃ v, e = .returned (.tuple #[v, .int .i64 0]) ∧ OB w' w.heap.size v l
    | none => e = .returned (.tuple #[.slice none 0 0, .int .i64 1])
theorem encM_no {w w' : World} {total : Option (List UInt8)} (h : total = none) (b : Below w.heap.size w w') : EncM w total (.returned (.tuple #[.slice none 0 0, .int .i64 1])) w' := by
  subst h
  exact ⟨b, rfl⟩
theorem encM_yes {w w' : World} {total : Option (List UInt8)} {l : List UInt8} {v : Value} (h : total = some l) (b : Below w.heap.size w w') (o : OB w' w.heap.size v l) : EncM w total (.returned (.tuple #[v, .int .i64 0])) w' := by
  subst h
  exact ⟨b, v, rfl, o⟩
/-- What holds at the head of Encode's loop. -/
structure EI (w wr : World) (c i : Int) (vn vt vp : Value) (IB : Nat) (s : ByteArray) (ps : List Prp) (total : Option (List UInt8)) (pos : Nat) (pre : List UInt8) (ns : List Int) (ts : List ByteArray) (k : Nat) (b n t : Value) : Prop where
  own : OB wr w.heap.size b pre
  mb : MB wr w.heap.size c i vn vt vp
  it : wr.heap[IB]? = some (.stringIter s pos)
  bel : Below w.heap.size w wr
  ri : RI w n ns
  rs : RS w t ts
  len : pre.length ≤ 4 + pos * 5000
  tot : total = (encB (s.data.toList.drop pos) ns ts k ps).map (pre ++ ·)
  big : ∀ x ∈ ns, x ≤ 9223372036854775807
  ln : ns.length ≤ 140737488351232
  lt : ts.length ≤ 140737488351232
theorem drop_at {s : ByteArray} {pos : Nat} (h : pos < s.size) : s.data.toList.drop pos = s[pos] :: s.data.toList.drop (pos + 1) := by
  have h' : pos < s.data.toList.length := by rw [ba_size]; exact h
  rw [List.drop_eq_getElem_cons h']
  congr 1
theorem small_at {s : ByteArray} (h : SmallF s) {pos : Nat} (hp : pos < s.size) : (s[pos]).toNat < 128 := by
  have h2 := List.all_eq_true.1 h.2 s[pos] (List.mem_of_getElem? (ba_at s pos hp))
  simpa using h2
theorem map_map' {X : Type} (o : Option (List X)) (a b : List X) : (o.map (b ++ ·)).map (a ++ ·) = o.map ((a ++ b) ++ ·) := by
  cases o <;> simp

section
variable {x : UInt8} {f : List UInt8} {ns : List Int} {ts : List ByteArray} {k z : Nat} {ps : List Prp} {n : Int} {y : ByteArray} {total : Option (List UInt8)} {l pre : List UInt8}
theorem enc_num_nil (ht : total = (encB l [] ts k ps).map (pre ++ ·)) (hl : l = x :: f) (hz : z = sizeOf' x.toNat) (h : (0 : Int) < z) : total = none := by
  subst hl
  rw [ht, encB.eq_def]
  dsimp only
  rw [← hz, if_pos (by omega)]
  rfl
theorem enc_num_bad (ht : total = (encB l (n :: ns) ts k ps).map (pre ++ ·)) (hl : l = x :: f) (hz : z = sizeOf' x.toNat) (h : (0 : Int) < z) (hf : fitsB n z = false) : total = none := by
  subst hl
  rw [ht, encB.eq_def]
  dsimp only
  rw [← hz, if_pos (by omega)]
  simp [hf]
theorem enc_num_ok {m : Nat} (ht : total = (encB l ((m : Int) :: ns) ts k ps).map (pre ++ ·)) (hl : l = x :: f) (hz : z = sizeOf' x.toNat) (h : (0 : Int) < z) (hf : fitsB m z = true) : total = (encB f ns ts k ps).map ((pre ++ beB m z) ++ ·) := by
  subst hl
  rw [ht, encB.eq_def]
  dsimp only
  rw [← hz, if_pos (by omega)]
  simp only [hf, if_true, map_map']
  rfl
theorem enc_tab_bad (ht : total = (encB l ns ts k ps).map (pre ++ ·)) (hl : l = x :: f) (hz : z = sizeOf' x.toNat) (h : z = 0) (hx : x = 84) (hv : validB ps = false) : total = none := by
  subst hl
  rw [ht, encB.eq_def]
  dsimp only
  rw [← hz, if_neg (by omega), if_pos hx]
  simp [hv]
theorem enc_tab_ok (ht : total = (encB l ns ts k ps).map (pre ++ ·)) (hl : l = x :: f) (hz : z = sizeOf' x.toNat) (h : z = 0) (hx : x = 84) (hv : validB ps = true) : total = (encB f ns ts (k + 1) ps).map ((pre ++ (beB (propsB ps).length 4 ++ propsB ps)) ++ ·) := by
  subst hl
  rw [ht, encB.eq_def]
  dsimp only
  rw [← hz, if_neg (by omega), if_pos hx, if_pos hv, map_map']
theorem enc_txt_nil (ht : total = (encB l ns [] k ps).map (pre ++ ·)) (hl : l = x :: f) (hz : z = sizeOf' x.toNat) (h : z = 0) (hx : x ≠ 84) : total = none := by
  subst hl
  rw [ht, encB.eq_def]
  dsimp only
  rw [← hz, if_neg (by omega), if_neg hx]
  rfl
theorem enc_txt_bad (ht : total = (encB l ns (y :: ts) k ps).map (pre ++ ·)) (hl : l = x :: f) (hz : z = sizeOf' x.toNat) (h : z = 0) (hx : x ≠ 84) (hv : ¬ (y.size ≤ 1024 ∧ (x = 115 → y.size ≤ 255))) : total = none := by
  subst hl
  rw [ht, encB.eq_def]
  dsimp only
  rw [← hz, if_neg (by omega), if_neg hx]
  simp only [if_neg hv]
  rfl
theorem enc_txt_ok (ht : total = (encB l ns (y :: ts) k ps).map (pre ++ ·)) (hl : l = x :: f) (hz : z = sizeOf' x.toNat) (h : z = 0) (hx : x ≠ 84) (hv : y.size ≤ 1024 ∧ (x = 115 → y.size ≤ 255)) : total = (encB f ns ts k ps).map ((pre ++ (beB y.size (if x = 115 then 1 else 4) ++ y.data.toList)) ++ ·) := by
  subst hl
  rw [ht, encB.eq_def]
  dsimp only
  rw [← hz, if_neg (by omega), if_neg hx]
  simp only [if_pos hv, map_map']
theorem enc_end (ht : total = (encB l ns ts k ps).map (pre ++ ·)) (hl : l = []) : total = if ns = [] ∧ ts = [] ∧ (k = 0 → ps.length = 0) then some pre else none := by
  subst hl
  rw [ht, encB.eq_def]
  dsimp only
  split <;> simp
end
end Go.Proofs.YteigbejidfkhpaaDoor
