/- Layer 8, the reference: Words, Good. -/
import Derived.Test.YtelhpdnclmpgoaaDoorQbB
import Derived.Laws.OwnMore
import Derived.RegionTactic
import Derived.BigQuiet
import Derived.Deep.QuietTactic
namespace Go.Proofs.YtelhpdnclmpgoaaDoor
open Go Go.RowKit
set_option linter.unusedSimpArgs false
set_option linter.unusedVariables false

theorem words_snoc : ∀ (l : List UInt8) (c : UInt8) (d : List (List UInt8)) (x : List UInt8), wordsP l = d ++ [x] → wordsP (l ++ [c]) = if c = 46 then d ++ [x, []] else d ++ [x ++ [c]]
  | [], c, d, x, h => by
    have h' : [([] : List UInt8)] = d ++ [x] := h
    cases d with
    | nil =>
      simp only [List.nil_append, List.cons.injEq, and_true] at h'
      subst h'
      by_cases hc : c = 46
      · subst hc; rfl
      · rw [if_neg hc]; show wordsP [c] = _; unfold wordsP; rw [if_neg hc]; rfl
    | cons y d => simp at h'
  | b :: r, c, d, x, h => by
    unfold wordsP at h
    by_cases hb : b = 46
    · rw [if_pos hb] at h
      cases d with
      | nil =>
        simp only [List.nil_append, List.cons.injEq] at h
        exact absurd h.2 (words_ne r)
      | cons y d =>
        simp only [List.cons_append, List.cons.injEq] at h
        have ih := words_snoc r c d x h.2
        rw [List.cons_append]
        conv => lhs; unfold wordsP
        rw [if_pos hb, ih, ← h.1]
        split <;> rfl
    · rw [if_neg hb] at h
      split at h
      · rename_i hw; exact absurd hw (words_ne r)
      · rename_i y ys hw
        cases d with
        | nil =>
          simp only [List.nil_append, List.cons.injEq] at h
          obtain ⟨h1, rfl⟩ := h
          have ih := words_snoc r c [] y hw
          rw [List.cons_append]
          conv => lhs; unfold wordsP
          rw [if_neg hb, ih, ← h1]
          by_cases hc : c = 46
          · rw [if_pos hc, if_pos hc]; rfl
          · rw [if_neg hc, if_neg hc]; rfl
        | cons z d =>
          simp only [List.cons_append, List.cons.injEq] at h
          obtain ⟨h1, rfl⟩ := h
          have ih := words_snoc r c (y :: d) x hw
          rw [List.cons_append]
          conv => lhs; unfold wordsP
          rw [if_neg hb, ih, ← h1]
          by_cases hc : c = 46
          · rw [if_pos hc, if_pos hc]; rfl
          · rw [if_neg hc, if_neg hc]; rfl

def txV (l : List UInt8) : Value := .string ⟨l.toArray⟩
/-- A row of texts of the call's own. -/
def OTx (w : World) (base : Nat) (v : Value) (ls : List (List UInt8)) : Prop := w.ownsRow base 9 1 v ls.length (ls.map txV)
theorem info_str : (Tryd.prog.info? 9).map (fun i => (i.zero, i.size, i.bytes)) = some (some (.string ByteArray.empty), 1, 16) := by kernel_rfl
theorem txV_one (ls : List (List UInt8)) : ∀ y ∈ ls.map txV, y.oneCell' = true := fun y hy => by
  obtain ⟨x, _, rfl⟩ := List.mem_map.1 hy
  rfl
theorem otx_parts {w : World} {base : Nat} {v : Value} {d : List (List UInt8)} {x : List UInt8} (h : OTx w base v (d ++ [x])) : ∃ g cap, v = .slice (some ⟨g, 0, none⟩) (d.length + 1) cap ∧ base ≤ g ∧ g < w.heap.size ∧ d.length + 1 ≤ cap ∧ w.cell? ⟨g, d.length, none⟩ = some (txV x) ∧ w.frozen? ⟨g, d.length, none⟩ = false := by
  have h0 := h
  unfold OTx at h0
  rw [List.length_append, List.length_singleton] at h0
  rcases h0.2 with ⟨_, hn⟩ | ⟨g, cap, cur, rfl, hb, hh, hn, hc, hs, ht⟩
  · simp at hn
  · refine ⟨g, cap, rfl, hb, (Array.getElem?_eq_some_iff.1 hh).1, hn, ?_, h0.frozenAt _⟩
    rw [h0.cellAt d.length (by omega), List.map_append, List.getElem?_append_right (by simp)]
    simp
theorem otx_store {w : World} {base g cap : Nat} {d : List (List UInt8)} {x y : List UInt8} (h : OTx w base (.slice (some ⟨g, 0, none⟩) (d.length + 1) cap) (d ++ [x])) : OTx (w.setCell ⟨g, d.length, none⟩ (txV y)) base (.slice (some ⟨g, 0, none⟩) (d.length + 1) cap) (d ++ [y]) := by
  have h0 := h
  unfold OTx at h0 ⊢
  rw [List.length_append, List.length_singleton] at h0 ⊢
  have := (h0.stored d.length (txV y)).1
  rw [List.map_append] at this ⊢
  rw [List.set_append_right _ _ (by simp)] at this
  simpa using this
theorem take_snoc (s : ByteArray) (k : Nat) (h : k < s.size) : s.data.toList.take (k + 1) = s.data.toList.take k ++ [s[k]] := by
  rw [List.take_add_one, ba_at s k h]
  rfl
theorem txV_app (s : ByteArray) (x : List UInt8) (k : Nat) (h : k < s.size) : Value.string (⟨x.toArray⟩ ++ s.extract k (k + 1)) = txV (x ++ [s[k]]) := by
  unfold txV
  congr 1
  apply ba_ext
  rw [ByteArray.data_append, Array.toList_append]
  simp only [ByteArray.data_extract, Array.toList_extract, List.extract_eq_take_drop]
  rw [show k + 1 - k = 1 by omega]
  congr 1
  have := ba_at s k h
  rw [List.drop_eq_getElem_cons (by rw [ba_size]; exact h)]
  simp only [List.take_succ_cons, List.take_zero, List.cons.injEq, and_true]
  have h2 := List.getElem?_eq_getElem (l := s.data.toList) (i := k) (by rw [ba_size]; exact h)
  rw [h2] at this
  exact Option.some.inj this

theorem app_word {ops : Array Oper} {rest : List Oper} {o : Oper} {a : Act} {Q : Exit → Act → World → Prop} {w0 W : World} {base : Nat} {ls ms : List (List UInt8)} {v u : Value}
    (hgd : o.guard = none) (s x : Operand) (ho : o.op = .call { callee := .builtin .append, args := #[s, x], argTypes := #[58, 58] })
    (hs : a.eval s = v) (hx : a.eval x = u) (hown : OTx W base v ls) (hr : RC W u ms.length 1 (ms.map txV)) (hB : Below base w0 W) (hbase : base ≤ W.heap.size) (hb : ls.length + ms.length ≤ 4194304)
    (h : ∀ v1 w1, OTx w1 base v1 (ls ++ ms) → Below base w0 w1 → wpList Tryd.prog ops Q rest (a.put o.dst v1) w1) :
    wpList Tryd.prog ops Q (o :: rest) a W :=
  app_own base 58 9 1 16 (.string ByteArray.empty) Tryd.underlying58 info_str rfl (by decide) hgd s x ho v u _ _ _ _ hs hx hown hr (txV_one _) hB (by omega) (by omega) hbase
    (fun v1 w1 h1 h2 h3 h4 => h v1 w1 (by unfold OTx; rw [List.length_append, List.map_append]; exact h1) h2)

set_option maxRecDepth 100000 in
set_option maxHeartbeats 2000000 in
theorem refWords_c {w : World} (s : ByteArray) (hsz : s.size ≤ 1048576) :
    Calls Tryd.prog 53 #[.string s, .int .u8 46] w fun e w' => ∃ v, e = .returned v ∧ RTx w' v (wordsB s) ∧ Below w.heap.size w w' := by
  go_enter Tryd.func53, Tryd.ntmps53
  go_wp2_with fail
  go_loopw [5, 6] (fun v i wr => ∃ (k : Nat) (d : List (List UInt8)) (x : List UInt8), k ≤ s.size ∧ i = .int .i64 k ∧ d.length ≤ k ∧ Hid (wordsP (s.data.toList.take k) = d ++ [x]) ∧ Hid (OTx wr w.heap.size v (d ++ [x])) ∧ Below w.heap.size w wr) (fun _ i _ => s.size - (intOf i).toNat)
  case atStart => exact ⟨0, [], [], Nat.zero_le _, rfl, Nat.zero_le _, Lib.hid rfl, Lib.hid (World.ownsRow_lit (e := 9) (size := 1) w #[.string ByteArray.empty] 1 (Nat.le_refl _) (by decide) rfl), (Below.refl _ _).alloc (Nat.le_refl _) _⟩
  case round =>
    obtain ⟨k, d, x, hk, rfl, hd, HW, HO, b2⟩ := hrel
    by_cases hlt : k < s.size
    · obtain ⟨g, cap, rfl, hg, hgs, hcap, q0, f0⟩ := otx_parts HO.out
      have hkI : (k : Int) < s.size := by omega
      have hsI : (s.size : Int) ≤ 1048576 := by omega
      have hdI : (d.length : Int) ≤ k := by omega
      have HLT := Lib.hid hlt
      have HSN := Lib.hid (words_snoc _ s[k] _ _ HW.out)
      have HTS := Lib.hid (take_snoc s k hlt)
      by_cases hc : s[k] = 46
      · have hcI : ((s[k].toNat : Int) == 46) = true := by rw [hc]; rfl
        have HN : Hid (wordsP (s.data.toList.take (k + 1)) = (d ++ [x]) ++ [[]]) := Lib.hid ((congrArg wordsP HTS.out).trans (HSN.out.trans ((if_pos hc).trans (by simp))))
        clear hc hk hd hg hgs q0 f0 HSN HTS
        go_wp2_with (at_builtin; refine app_word (w0 := w) (base := w.heap.size) (ls := d ++ [x]) (ms := [[]]) rfl (.tmp 19) (.tmp 20) rfl rfl rfl (HO.out.alloc _) (rc_new wr 9 1 1 [.string ByteArray.empty] rfl (by omega)) (b2.alloc b2.size _) (by have := b2.size; simp; omega) (by simp; omega) ?_; intro v4 w4 o4 b4; have O4 := Lib.hid o4; clear o4)
        go_roundw
        case rel => exact ⟨k + 1, d ++ [x], [], by have := HLT.out; omega, by go_num, by simp; omega, HN, O4, b4⟩
        case measure => have := HLT.out; simp [intOf]; omega
      · have hcI : ((s[k].toNat : Int) == 46) = false := beq_eq_false_iff_ne.2 fun e => hc (by apply UInt8.toNat_inj.1; have : (s[k].toNat : Int) = 46 := e; show s[k].toNat = 46; omega)
        have HN : Hid (wordsP (s.data.toList.take (k + 1)) = d ++ [x ++ [s[k]]]) := Lib.hid ((congrArg wordsP HTS.out).trans (HSN.out.trans (if_neg hc)))
        have HTX := Lib.hid (txV_app s x k hlt)
        have hcapI : (d.length : Int) + 1 ≤ cap := by omega
        have hwd : IntKind.i64.wrap (d.length : Int) = d.length := IntWalk.i64_in _ (by omega)
        have hwk : wrap64 ((k : Int) + 1) = (k : Int) + 1 := by unfold wrap64; omega
        have hdd : (d.length : Int) < (d.length : Int) + 1 := by omega
        have hwk2 : IntKind.i64.wrap ((k : Int) + 1) = (k : Int) + 1 := IntWalk.i64_in _ (by omega)
        have hk0 : (0 : Int) ≤ (k : Int) + 1 := by omega
        have hk1 : (k : Int) + 1 ≤ s.size := by omega
        have hk3 : (k : Int) ≤ (k : Int) + 1 := by omega
        have hk4 : ((k : Int) + 1).toNat = k + 1 := by omega
        have hxl : x.length ≤ s.size := by
          have h1 := words_size _ x (by rw [HW.out]; simp)
          rw [List.length_take] at h1
          omega
        have hcat : ¬ 9223372036854775807 < x.length + (min (k + 1) s.size - k) := by omega
        have hcat2 : x.length + (min (k + 1) s.size - k) ≤ 9223372036854775807 := by omega
        unfold txV at q0
        clear hc hk hd HSN HTS
        go_wp2_with fail
        go_region
        have o4 := otx_store (y := x ++ [s[k]]) HO.out
        have b4 : Below w.heap.size w (wr.setCell ⟨g, d.length, none⟩ (txV (x ++ [s[k]]))) := b2.grown (grownBy_set wr g d.length (txV (x ++ [s[k]]))) b2.size (fun q hq => by injection hq with hq; subst hq; exact own_base HO.out _ rfl)
        have O4 := Lib.hid o4
        have B4 := Lib.hid b4
        clear o4 b4
        go_wp2_with fail
        go_roundw
        case rel => exact ⟨k + 1, d, x ++ [s[k]], by have := HLT.out; omega, by go_num, by omega, HN, Lib.hid (by rw [HTX.out]; exact O4.out), by rw [HTX.out]; exact B4.out.drew⟩
        case measure => have := HLT.out; simp [intOf]; omega
    · have hk2 : k = s.size := by omega
      subst hk2
      have HN : Hid (wordsP s.data.toList = d ++ [x]) := Lib.hid (by have := HW.out; rwa [List.take_of_length_le (by rw [ba_size]; exact Nat.le_refl _)] at this)
      clear hlt
      go_wp2_with fail
      go_ret
      refine ⟨_, rfl, ?_, b2⟩
      have h1 := own_rc HO.out
      have e : wordsB s = (d ++ [x]).map fun l => ⟨l.toArray⟩ := by unfold wordsB; rw [HN.out]
      unfold RTx
      rw [e, List.length_map, List.map_map]
      exact h1
end Go.Proofs.YtelhpdnclmpgoaaDoor
