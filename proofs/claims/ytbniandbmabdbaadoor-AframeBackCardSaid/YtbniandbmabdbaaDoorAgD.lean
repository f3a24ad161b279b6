/- Layer 16: Next. -/
import Derived.Test.YtbniandbmabdbaaDoorAgC
namespace Go.Proofs.YtbniandbmabdbaaDoor.Af
open Go Go.RowKit
set_option linter.unusedSimpArgs false
set_option linter.unusedVariables false

/-- A byte of a text, 0 where there is none. -/
def atB (s : ByteArray) (k : Nat) : UInt8 := (s.data.toList[k]?).getD 0
theorem atB_eq (s : ByteArray) (k : Nat) (h : k < s.size) : atB s k = s[k] := by rw [atB, ba_at s k h]; rfl

/-- How many bytes a frame's payload has, as the bytes tell. -/
def lenB (s : ByteArray) : Nat := natB (s.extract 3 7).data.toList
def chB (s : ByteArray) : Nat := natB (s.extract 1 3).data.toList
/-- Next's error. -/
def nxE (s : ByteArray) : Nat :=
  if 0 < s.size ∧ kindB (atB s 0).toNat = false then 40
  else if s.size < 7 then 41
  else if 16384 < lenB s then 40
  else if s.size < lenB s + 8 then 41
  else if atB s (7 + lenB s) ≠ 206 then 40
  else 0
def nxV (t c : Int) (p : ByteArray) (n e : Int) : Value := .tuple #[.agg #[.int .i64 t, .int .i64 c, .string p], .int .i64 n, .int .i64 e]
/-- Next's answer. -/
def nxA (s : ByteArray) : Value := if nxE s = 0 then nxV (atB s 0).toNat (chB s) (s.extract 7 (7 + lenB s)) (lenB s + 8 : Nat) 0 else nxV 0 0 ByteArray.empty 0 (nxE s : Nat)

theorem nxA_err {s : ByteArray} {k : Nat} (h : nxE s = k) (hk : k ≠ 0) : nxA s = nxV 0 0 ByteArray.empty 0 (k : Nat) := by
  unfold nxA
  rw [if_neg (by rw [h]; exact hk), h]

theorem wrap_u8 (b : UInt8) : wrap64 (b.toNat : Int) = b.toNat := by
  have := UInt8.toNat_lt b
  unfold wrap64
  omega

theorem results_row2 {P : Program} {fn : Func} {p u v : Tmp} {ty : TypeId} (h : fn.results = #[.cell p ty, .tmp u, .tmp v]) (tmps : Array Value) (w : World) (g : Nat) (t : TypeId) (cs : Array Value) (fr : Nat × Nat) (d : TypeDesc)
    (hp : tmps.getD p undef = .pointer (some ⟨g, 0, none⟩)) (hg : w.heap[g]? = some (.cells cs t fr))
    (hu : P.underlying ty = some d) (hd : (match d with | .struct _ | .array _ _ => true | _ => false) = true) (hi : (P.info? ty).map (·.size) = some cs.size) :
    (results fn tmps).run P w = .ok (.tuple #[.agg cs, tmps.getD u undef, tmps.getD v undef]) w := by
  have hp' : tmps[p]?.getD undef = .pointer (some ⟨g, 0, none⟩) := by simpa using hp
  simp [results, h, hp', asAddr, run_loadVar_row w g t ty cs fr d hg hu hd hi]

/-- The end of Next: its result lies in block g. -/
theorem next_end {fn : Func} (h : fn.results = #[.cell 2 23, .tmp 3, .tmp 4]) {R : Ending → World → Prop} {a : Act} {w : World} {g : Nat} {t : TypeId} {c0 c1 c2 : Value} {fr : Nat × Nat}
    (hp : a.tmps.getD 2 undef = .pointer (some ⟨g, 0, none⟩)) (hg : w.heap[g]? = some (.cells #[c0, c1, c2] t fr)) (hd : a.defers = [])
    (hR : R (.returned (.tuple #[.agg #[c0, c1, c2], a.tmps.getD 3 undef, a.tmps.getD 4 undef])) w) : bodyPost Tryd.prog fn R .ret a w :=
  bodyPost_ret (results_row2 h _ _ _ _ _ _ _ hp hg Tryd.underlying23 rfl (by kernel_rfl)) hd hR

theorem ext_size (s : ByteArray) (a b : Nat) (h : b ≤ s.size) : (s.extract a b).size = b - a := by rw [ByteArray.size_extract]; omega

set_option maxRecDepth 100000 in
set_option maxHeartbeats 8000000 in
theorem next_c {w : World} (s : ByteArray) (hs : s.size ≤ 140737488351232) :
    Calls Tryd.prog 11 #[.string s] w fun e w' => e = .returned (nxA s) ∧ Below w.heap.size w w' := by
  have bW := (Below.refl w.heap.size w).alloc (Nat.le_refl _) (.cells #[.int .i64 0, .int .i64 0, .string ByteArray.empty] 23)
  have q0 := new_cell (w := w) (cs := #[.int .i64 0, .int .i64 0, .string ByteArray.empty]) (t := 23) 0 _ rfl
  by_cases h0 : 0 < s.size
  · have h0' : (0 : Int) < s.size := by omega
    have hk1 : wrap64 (s[0].toNat : Int) = (atB s 0).toNat := by rw [atB_eq s 0 h0, wrap_u8]
    by_cases hk : kindB (atB s 0).toNat = false
    · have hp : nxA s = nxV 0 0 ByteArray.empty 0 (40 : Nat) := nxA_err (by unfold nxE; rw [if_pos ⟨h0, hk⟩]) (by decide)
      rw [hp]
      have hk2 : kindB (wrap64 (s[0].toNat : Int)) = false := by rw [hk1]; exact hk
      clear hp hk hk1
      go_enter Tryd.func11, Tryd.ntmps11
      go_wp2_with (go_at_call 19; refine (kind_c _).mono ?_; rw [hk2]; rintro e w1 ⟨rfl, rfl⟩)
      refine next_end rfl rfl (heap_alloc_new w _) rfl ?_
      exact ⟨rfl, bW⟩
    · have hk2 : kindB (wrap64 (s[0].toNat : Int)) = true := by rw [hk1]; simpa using hk
      have HK1 := Lib.hid hk1
      clear hk1
      by_cases h7 : s.size < 7
      · have hp : nxA s = nxV 0 0 ByteArray.empty 0 (41 : Nat) := nxA_err (by unfold nxE; rw [if_neg (fun h => hk h.2), if_pos h7]) (by decide)
        rw [hp]
        have h7' : (s.size : Int) < 7 := by omega
        clear hp hk h7
        go_enter Tryd.func11, Tryd.ntmps11
        go_wp2_with (go_at_call 19; refine (kind_c _).mono ?_; rw [hk2]; rintro e w1 ⟨rfl, rfl⟩)
        refine next_end rfl rfl (heap_alloc_new w _) rfl ?_
        exact ⟨rfl, bW⟩
      · have h7' : (7 : Int) ≤ s.size := by omega
        have hx1 : (s.extract 3 7).size ≤ 7 := by rw [ext_size _ _ _ (by omega)]; omega
        have hx2 : (s.extract 1 3).size ≤ 7 := by rw [ext_size _ _ _ (by omega)]; omega
        by_cases hn : 16384 < lenB s
        · have hp : nxA s = nxV 0 0 ByteArray.empty 0 (40 : Nat) := nxA_err (by unfold nxE; rw [if_neg (fun h => hk h.2), if_neg h7, if_pos hn]) (by decide)
          rw [hp]
          have hn' : (16384 : Int) < lenB s := by omega
          clear hp hk h7 hn
          go_enter Tryd.func11, Tryd.ntmps11
          go_wp2_with (first | (go_at_call 19; refine (kind_c _).mono ?_; rw [hk2]; rintro e w1 ⟨rfl, rfl⟩) | (go_at_call 23; refine (big_c _ hx1).mono ?_; rw [← show lenB s = natB (s.extract 3 7).data.toList from rfl]; rintro e w1 ⟨rfl, rfl⟩))
          refine next_end rfl rfl (heap_alloc_new w _) rfl ?_
          exact ⟨rfl, bW⟩
        · have hn' : (lenB s : Int) ≤ 16384 := by omega
          by_cases hm : s.size < lenB s + 8
          · have hp : nxA s = nxV 0 0 ByteArray.empty 0 (41 : Nat) := nxA_err (by unfold nxE; rw [if_neg (fun h => hk h.2), if_neg h7, if_neg hn, if_pos hm]) (by decide)
            rw [hp]
            have hm' : (s.size : Int) < 7 + lenB s + 1 := by omega
            clear hp hk h7 hn hm
            go_enter Tryd.func11, Tryd.ntmps11
            go_wp2_with (first | (go_at_call 19; refine (kind_c _).mono ?_; rw [hk2]; rintro e w1 ⟨rfl, rfl⟩) | (go_at_call 23; refine (big_c _ hx1).mono ?_; rw [← show lenB s = natB (s.extract 3 7).data.toList from rfl]; rintro e w1 ⟨rfl, rfl⟩))
            refine next_end rfl rfl (heap_alloc_new w _) rfl ?_
            exact ⟨rfl, bW⟩
          · have hm' : (7 : Int) + lenB s + 1 ≤ s.size := by omega
            have hl : 7 + lenB s < s.size := by omega
            have hl' : (7 : Int) + lenB s < s.size := by omega
            by_cases hb : atB s (7 + lenB s) = 206
            · have hp : nxA s = nxV (atB s 0).toNat (chB s) (s.extract 7 (7 + lenB s)) (lenB s + 8 : Nat) 0 := by
                unfold nxA
                rw [if_pos (by unfold nxE; rw [if_neg (fun h => hk h.2), if_neg h7, if_neg hn, if_neg hm, if_neg (fun h => h hb)])]
              rw [hp]
              have hb2 : ((s[7 + lenB s]).toNat : Int) = 206 := by rw [← atB_eq s _ hl, hb]; rfl
              have h3' : (3 : Int) ≤ s.size := by omega
              have hm3 : (7 : Int) + lenB s ≤ s.size := by omega
              have hm4 : (7 : Int) ≤ 7 + lenB s := by omega
              have hw7 : IntKind.i64.wrap (7 + (lenB s : Int)) = 7 + lenB s := IntWalk.i64_in _ (by omega)
              have hw8 : IntKind.i64.wrap (7 + (lenB s : Int) + 1) = 7 + lenB s + 1 := IntWalk.i64_in _ (by omega)
              have HW1 := Lib.hid (show IntKind.i64.wrap (s[0].toNat : Int) = (atB s 0).toNat by rw [atB_eq s 0 h0]; exact IntWalk.i64_in _ (by have := UInt8.toNat_lt s[0]; omega))
              have HE2 := Lib.hid (show (7 + (lenB s : Int)).toNat = 7 + lenB s by omega)
              have HE3 := Lib.hid (show (7 + (lenB s : Int) + 1) = ((lenB s + 8 : Nat) : Int) by omega)
              have bS := (Below.refl w.heap.size w).alloc (Nat.le_refl _) (.cells #[.int .i64 (IntKind.i64.wrap (s[0].toNat : Int)), .int .i64 (chB s), .string (s.extract 7 (7 + (lenB s : Int)).toNat)] 23)
              have hZ : (w.alloc (.cells #[.int .i64 0, .int .i64 0, .string ByteArray.empty] 23)).drew.heap.size = w.heap.size + 1 := Array.size_push _
              clear hp hk h7 hn hm hb
              go_enter Tryd.func11, Tryd.ntmps11
              go_wp2_with (first | (go_at_call 19; refine (kind_c _).mono ?_; rw [hk2]; rintro e w1 ⟨rfl, rfl⟩) | (go_at_call 23; refine (big_c _ hx1).mono ?_; rw [← show lenB s = natB (s.extract 3 7).data.toList from rfl]; rintro e w1 ⟨rfl, rfl⟩))
              go_region_held3 (fun w' => w'.heap.size = w.heap.size + 1) (first | exact hZ | go_keep) (first | (go_at_call 23; refine (big_c _ hx2).mono ?_; rw [← show chB s = natB (s.extract 1 3).data.toList from rfl]; rintro e w1 ⟨rfl, rfl⟩))
              all_goals go_wp2
              all_goals refine next_end rfl rfl (heap_alloc_new w _) rfl ?_
              all_goals exact ⟨by show Ending.returned (nxV (IntKind.i64.wrap (s[0].toNat : Int)) (chB s) (s.extract 7 (7 + (lenB s : Int)).toNat) (7 + (lenB s : Int) + 1) 0) = _; rw [HW1.out, HE2.out, HE3.out], bS.drew⟩
            · have hp : nxA s = nxV 0 0 ByteArray.empty 0 (40 : Nat) := nxA_err (by unfold nxE; rw [if_neg (fun h => hk h.2), if_neg h7, if_neg hn, if_neg hm, if_pos hb]) (by decide)
              rw [hp]
              have hb2 : ((s[7 + lenB s]).toNat : Int) ≠ 206 := by
                rw [← atB_eq s _ hl]
                intro h
                exact hb (UInt8.toNat_inj.1 (by simpa using Int.ofNat.inj h))
              clear hp hk h7 hn hm hb
              go_enter Tryd.func11, Tryd.ntmps11
              go_wp2_with (first | (go_at_call 19; refine (kind_c _).mono ?_; rw [hk2]; rintro e w1 ⟨rfl, rfl⟩) | (go_at_call 23; refine (big_c _ hx1).mono ?_; rw [← show lenB s = natB (s.extract 3 7).data.toList from rfl]; rintro e w1 ⟨rfl, rfl⟩))
              refine next_end rfl rfl (heap_alloc_new w _) rfl ?_
              exact ⟨rfl, bW⟩
  · have hp : nxA s = nxV 0 0 ByteArray.empty 0 (41 : Nat) := nxA_err (by unfold nxE; rw [if_neg (fun h => h0 h.1), if_pos (by omega)]) (by decide)
    rw [hp]
    have h7' : (s.size : Int) ≤ 0 := by omega
    clear hp h0
    go_enter Tryd.func11, Tryd.ntmps11
    go_wp2_with fail
    refine next_end rfl rfl (heap_alloc_new w _) rfl ?_
    exact ⟨rfl, bW⟩
end Go.Proofs.YtbniandbmabdbaaDoor.Af
