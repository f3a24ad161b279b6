/- Layer 8: topic.Good answers whether a text is a topic. -/
import Derived.Test.YtelhpdnclmpgoaaDoorQbA
namespace Go.Proofs.YtelhpdnclmpgoaaDoor
open Go Go.RowKit
set_option linter.unusedSimpArgs false
set_option linter.unusedVariables false

set_option maxRecDepth 100000 in
theorem word_c {w : World} (s : ByteArray) (hs : s.size ≤ 140737488351232) :
    Calls Tryd.prog 51 #[.string s] w fun e w' => e = .returned (.bool (nameB s)) ∧ Below w.heap.size w w' := by
  by_cases h0 : 0 < s.size
  · have hE := ne_nil s h0
    by_cases h1 : (16 : Int) < s.size
    · have hn : nameB s = false := by unfold nameB; rw [decide_eq_false (show ¬ s.size ≤ 16 by omega)]; simp
      rw [hn]
      clear hn h0
      go_enter Tryd.func51, Tryd.ntmps51
      go_wp2_with fail
      go_ret
      exact ⟨rfl, Below.refl _ _⟩
    · have h1' : (s.size : Int) ≤ 16 := by omega
      have hn : nameB s = (Lib.trimS s.data.toList letters.data.toList).isEmpty := by unfold nameB; rw [decide_eq_true h0, decide_eq_true (show s.size ≤ 16 by omega)]; rfl
      have HT := Lib.hid (trim_c (w := w) s hs)
      obtain ⟨y, hy⟩ : ∃ y, y = Lib.trimS s.data.toList letters.data.toList := ⟨_, rfl⟩
      rw [← hy] at hn HT
      rw [hn]
      clear hn h0 h1 hy
      cases y with
      | nil =>
        go_enter Tryd.func51, Tryd.ntmps51
        go_wp2_with fail
        refine (HT.out).mono ?_
        rintro e w1 ⟨rfl, b1⟩
        go_wp2_with fail
        go_ret
        exact ⟨rfl, b1⟩
      | cons a r =>
        obtain ⟨z, hz⟩ : ∃ z : ByteArray, z = ⟨(a :: r).toArray⟩ := ⟨_, rfl⟩
        have hzE : z.toList.isEmpty = false := by rw [ByteArray.toList_eq, hz]; rfl
        rw [← hz] at HT
        clear hz
        go_enter Tryd.func51, Tryd.ntmps51
        go_wp2_with fail
        refine (HT.out).mono ?_
        rintro e w1 ⟨rfl, b1⟩
        go_wp2_with fail
        go_ret
        exact ⟨rfl, b1⟩
  · obtain rfl := ba_nil (s := s) (by omega)
    go_enter Tryd.func51, Tryd.ntmps51
    go_wp2_with fail
    go_ret
    exact ⟨rfl, Below.refl _ _⟩

theorem noWord_c {w : World} (s : ByteArray) (hs : s.size ≤ 140737488351232) :
    Calls Tryd.prog 50 #[.string s] w fun e w' => e = .returned (.bool (!nameB s)) ∧ Below w.heap.size w w' := by
  have HW := Lib.hid (word_c (w := w) s hs)
  obtain ⟨b, hb⟩ : ∃ b, b = nameB s := ⟨_, rfl⟩
  rw [← hb] at HW ⊢
  clear hb hs
  cases b <;> (
    go_enter Tryd.func50, Tryd.ntmps50
    go_wp2_with fail
    refine (HW.out).mono ?_
    rintro e w1 ⟨rfl, b1⟩
    go_wp2_with fail
    go_ret
    exact ⟨rfl, b1⟩)

/-- A row of texts. -/
def RTx (w : World) (v : Value) (ts : List ByteArray) : Prop := RC w v ts.length 1 (ts.map Value.string)
theorem texts_at {w : World} {v : Value} {ts : List ByteArray} (h : RTx w v ts) : ∃ A c, v = .slice A ts.length c ∧ ts.length ≤ c ∧ ∀ k t, ts[k]? = some t → ∃ a, A = some a ∧ w.cell? (a.add k) = some (.string t) := by
  obtain ⟨A, c, rfl, h1, h2, h3, h4, h5⟩ := h
  exact ⟨A, c, rfl, h1, fun k t hk => h5 k _ (by rw [List.getElem?_map, hk]; rfl)⟩

set_option maxRecDepth 100000 in
set_option maxHeartbeats 1000000 in
theorem idxWord_c {w : World} {v : Value} {ts : List ByteArray} (hr : RTx w v ts) (hsz : ∀ t ∈ ts, t.size ≤ 140737488351232) :
    Calls Tryd.prog 70 #[v, .func (.func 50) #[] #[]] w fun e w' => ∃ n : Int, e = .returned (.int .i64 n) ∧ decide (0 ≤ n) = !ts.all nameB ∧ Below w.heap.size w w' := by
  have h63 : ts.length ≤ 9223372036854775807 := by obtain ⟨_, _, _, h1, h2, _⟩ := id hr; omega
  obtain ⟨A, c, rfl, hnc, hcell⟩ := texts_at hr
  have HC := Lib.hid hcell
  have HS := Lib.hid hsz
  obtain ⟨ab, hab⟩ : ∃ ab, ab = ts.all nameB := ⟨_, rfl⟩
  have HAB := Lib.hid hab
  rw [← hab]
  clear hr hcell hsz hab
  go_enter Tryd.func70, Tryd.ntmps70
  go_wp2_with fail
  go_loopw [8] (fun i wr => ∃ k : Nat, k ≤ ts.length ∧ i = .int .i64 k ∧ Hid (∀ j t, j < k → ts[j]? = some t → nameB t = true) ∧ Below w.heap.size w wr) (fun i _ => ts.length - (intOf i).toNat)
  case atStart => exact ⟨0, Nat.zero_le _, rfl, Lib.hid (fun j t h => by omega), Below.refl _ _⟩
  case round =>
    obtain ⟨k, hk, rfl, HN, b2⟩ := hrel
    by_cases hlt : k < ts.length
    · obtain ⟨t, ht⟩ : ∃ t, ts[k]? = some t := ⟨_, List.getElem?_eq_getElem hlt⟩
      obtain ⟨a, rfl, q0⟩ := HC.out k t ht
      have hns := HS.out t (List.mem_of_getElem? ht)
      have p0 := cell_below b2 (World.block_lt_of_cell? w _ q0) q0
      have HT := Lib.hid ht
      have HLT := Lib.hid hlt
      have HW := Lib.hid (noWord_c (w := wr) t hns)
      have hkI : (k : Int) < ts.length := by omega
      clear ht q0 hns
      cases hnm : nameB t with
      | false =>
        rw [hnm] at HW
        obtain rfl : ab = false := by rw [HAB.out]; exact List.all_eq_false.2 ⟨t, List.mem_of_getElem? HT.out, by rw [hnm]; decide⟩
        go_wp2_with fail
        refine (HW.out).mono ?_
        rintro e w1 ⟨rfl, b3⟩
        go_wp2_with fail
        go_ret
        exact ⟨_, rfl, by simp, b2.trans (b3.mono b2.size)⟩
      | true =>
        rw [hnm] at HW
        have hnx : ∀ j t, j < k + 1 → ts[j]? = some t → nameB t = true := fun j x hj hx => by
          by_cases e : j = k
          · subst e
            rw [HT.out] at hx
            injection hx with hx
            rw [← hx]
            exact hnm
          · exact HN.out j x (by omega) hx
        have HNX := Lib.hid hnx
        clear hnx
        go_wp2_with fail
        refine (HW.out).mono ?_
        rintro e w1 ⟨rfl, b3⟩
        go_wp2_with fail
        go_roundw
        case rel => exact ⟨k + 1, by have := HLT.out; omega, by go_num, HNX, b2.trans (b3.mono b2.size)⟩
        case measure => have := HLT.out; simp [intOf]; omega
    · have hk2 : k = ts.length := by omega
      subst hk2
      obtain rfl : ab = true := by
        rw [HAB.out]
        exact List.all_eq_true.2 fun t ht => by
          obtain ⟨j, hj⟩ := List.getElem?_of_mem ht
          exact HN.out j t (List.getElem?_eq_some_iff.1 hj).1 hj
      clear hlt
      go_wp2_with fail
      go_ret
      exact ⟨-1, rfl, by decide, b2⟩

set_option maxRecDepth 100000 in
theorem anyNo_c {w : World} {v : Value} {ts : List ByteArray} (hr : RTx w v ts) (hsz : ∀ t ∈ ts, t.size ≤ 140737488351232) :
    Calls Tryd.prog 49 #[v, .func (.func 50) #[] #[]] w fun e w' => e = .returned (.bool (!ts.all nameB)) ∧ Below w.heap.size w w' := by
  have HI := Lib.hid (idxWord_c hr hsz)
  obtain ⟨A, c, rfl, _⟩ := texts_at hr
  obtain ⟨x, hx⟩ : ∃ x, x = !ts.all nameB := ⟨_, rfl⟩
  have HX := Lib.hid hx
  rw [← hx]
  clear hr hsz hx
  go_enter Tryd.func49, Tryd.ntmps49
  go_wp2_with fail
  refine (HI.out).mono ?_
  rintro e w1 ⟨n, rfl, hn, b1⟩
  rw [← HX.out] at hn
  subst hn
  clear HX HI
  go_wp2_with fail
  all_goals go_ret
  all_goals exact ⟨by first | rfl | (simp; omega), b1⟩

set_option maxRecDepth 100000 in
set_option maxHeartbeats 1000000 in
theorem topic_c {w : World} (s : ByteArray) (hs : s.size ≤ 1048576) (hm : ∃ m : Int, w.cell? ⟨3, 0, none⟩ = some (.int .i64 m)) :
    Calls Tryd.prog 31 #[.string s] w fun e w' => e = .returned (.bool (topicB s)) ∧ Below w.heap.size w w' := by
  obtain ⟨m, hm⟩ := hm
  have HSP := Lib.hid (split_c s hs hm)
  have HSZ : Hid (∀ t ∈ wordsB s, t.size ≤ 140737488351232) := Lib.hid (fun t ht => by have := wordsB_size ht; omega)
  obtain ⟨ws, hws⟩ : ∃ ws, ws = wordsB s := ⟨_, rfl⟩
  have hwl : ws.length ≤ 1048577 := by
    rw [hws, ← count_words]
    have := Lib.countB_le dotB (by decide) s.size s (Nat.le_refl _)
    omega
  have hT : topicB s = (decide (s.size ≤ 64) && decide (ws.length ≤ 8) && ws.all nameB) := by unfold topicB; rw [hws]
  obtain ⟨tb, htb⟩ : ∃ tb, tb = topicB s := ⟨_, rfl⟩
  have HTB := Lib.hid (htb.trans hT)
  rw [← htb]
  rw [← hws] at HSP HSZ
  clear hT hm hws htb
  go_enter Tryd.func31, Tryd.ntmps31
  go_wp2_with fail
  refine (HSP.out).mono ?_
  rintro e w1 ⟨v, rfl, r1, b1⟩
  have HA := Lib.hid (anyNo_c (w := w1) (v := v) r1 HSZ.out)
  obtain ⟨A, c, rfl, _⟩ := texts_at r1
  clear r1 HSP HSZ
  by_cases h64 : s.size ≤ 64
  · have h64I : (s.size : Int) ≤ 64 := by omega
    by_cases h8 : ws.length ≤ 8
    · have h8I : (ws.length : Int) ≤ 8 := by omega
      cases hall : ws.all nameB with
      | false =>
        rw [hall] at HA
        obtain rfl : tb = false := by rw [HTB.out, hall, Bool.and_false]
        clear hall
        go_wp2_with fail
        refine (HA.out).mono ?_
        rintro e w2 ⟨rfl, b2⟩
        go_wp2_with fail
        go_ret
        exact ⟨rfl, b1.trans (b2.mono b1.size)⟩
      | true =>
        rw [hall] at HA
        obtain rfl : tb = true := by rw [HTB.out, hall, decide_eq_true h64, decide_eq_true h8]; rfl
        clear hall
        go_wp2_with fail
        refine (HA.out).mono ?_
        rintro e w2 ⟨rfl, b2⟩
        go_wp2_with fail
        go_ret
        exact ⟨rfl, b1.trans (b2.mono b1.size)⟩
    · have h8I : (8 : Int) < ws.length := by omega
      obtain rfl : tb = false := by rw [HTB.out, decide_eq_false h8, Bool.and_false, Bool.false_and]
      clear h8
      go_wp2_with fail
      go_ret
      exact ⟨rfl, b1⟩
  · have h64I : (64 : Int) < s.size := by omega
    obtain rfl : tb = false := by rw [HTB.out, decide_eq_false h64, Bool.false_and, Bool.false_and]
    clear h64
    go_wp2_with fail
    go_ret
    exact ⟨rfl, b1⟩
end Go.Proofs.YtelhpdnclmpgoaaDoor
