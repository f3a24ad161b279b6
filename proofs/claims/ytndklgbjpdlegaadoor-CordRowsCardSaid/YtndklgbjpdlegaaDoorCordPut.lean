/- trivetlaw01.put: parts as bytes. -/
import Derived.Test.YtndklgbjpdlegaaDoorCordK
import Derived.Test.YtndklgbjpdlegaaDoorOpenPart
namespace Go.Proofs.YtndklgbjpdlegaaDoor
open Go Go.RowKit
set_option linter.unusedSimpArgs false
set_option linter.unusedVariables false

def partB (p : Prt) : List UInt8 := if p.text = true then strB p.s.data.toList else numB p.n
def partsB (ps : List Prt) : List UInt8 := ps.flatMap partB
theorem partsB_snoc (ps : List Prt) (p : Prt) : partsB (ps ++ [p]) = partsB ps ++ partB p := by simp [partsB]

theorem add_one_of (a : Addr) (i j : Nat) : a.add (i + (j + 1)) = ⟨(a.add i).block, (a.add i).off + (j + 1), none⟩ := by
  rw [← add_add]
  generalize a.add i = b
  unfold Addr.add
  simp
theorem parts_at {w : World} {v : Value} {ps : List Prt} (h : RP w v ps) : ∃ A c, v = .slice A ps.length c ∧ ps.length ≤ c ∧ ∀ k x, ps[k]? = some x → ∃ a, A = some a ∧ w.cell? (a.add (k * 3)) = some (.bool x.text) ∧ w.cell? ⟨(a.add (k * 3)).block, (a.add (k * 3)).off + 1, none⟩ = some (.int .i64 x.n) ∧ w.cell? ⟨(a.add (k * 3)).block, (a.add (k * 3)).off + 2, none⟩ = some (.string x.s) := by
  obtain ⟨A, c, h1, h2, h3⟩ := row_at (f := Prt.cells) (by omega) (fun _ => rfl) h
  exact ⟨A, c, h1, h2, fun k x hx => by
    obtain ⟨a, ha, hc⟩ := h3 k x hx
    exact ⟨a, ha, hc 0 _ rfl, by rw [← add_one_of]; exact hc 1 _ rfl, by rw [← add_one_of]; exact hc 2 _ rfl⟩⟩

def PutPost (w : World) (ps : List Prt) (e : Ending) (w' : World) : Prop :=
  Below w.heap.size w w' ∧ (e = .returned (.tuple #[.slice none 0 0, .bool false]) ∨ ∃ v, e = .returned (.tuple #[v, .bool true]) ∧ OB w' w.heap.size v (partsB ps) ∧ ps.length ≤ 200 ∧ (partsB ps).length ≤ 20000 ∧ ∀ p ∈ ps, p.s.size ≤ 4096)

theorem partB_len {p : Prt} (h : p.good) (hs : p.s.size ≤ 4096) : (partB p).length ≤ 4096 + 23 := by
  unfold partB
  have hsl : p.s.data.toList.length = p.s.size := by rw [Array.length_toList]; rfl
  split
  · have := Lib.itoa_length_le (p.s.data.toList.length : Int) (by omega) (by omega)
    simp only [strB, List.length_append, List.length_cons, List.length_nil]
    omega
  · have := numB_len p.n h.1 h.2
    omega

set_option maxRecDepth 100000 in
set_option maxHeartbeats 2000000 in
theorem put_c {w : World} {v : Value} {ps : List Prt} (hG : G w) (h : RP w v ps) (hg : ∀ p ∈ ps, p.good) (hl : ps.length ≤ 140737488351232) :
    Calls Tryd.prog 15 #[v] w (PutPost w ps) := by
  have HP := Lib.hid h
  have HG := Lib.hid hG
  have HGD := Lib.hid hg
  obtain ⟨A, c, rfl, hnc, hcell⟩ := parts_at h
  have HC := Lib.hid hcell
  clear h hG hg hcell
  by_cases h2 : (ps.length : Int) > 200
  · go_enter Tryd.func15, Tryd.ntmps15
    go_wp2
    go_ret2
    exact ⟨Below.refl _ _, .inl rfl⟩
  · go_enter Tryd.func15, Tryd.ntmps15
    go_wp2
    go_loopw [4, 12] (fun x i wr => ∃ k : Nat, k ≤ ps.length ∧ i = .int .i64 k ∧ (partsB (ps.take k)).length ≤ 8192 + 4096 + 23 ∧ (∀ p ∈ ps.take k, p.s.size ≤ 4096) ∧ Hid (OB wr w.heap.size x (partsB (ps.take k))) ∧ Below w.heap.size w wr) (fun _ i _ => ps.length - (intOf i).toNat)
    case atStart => exact ⟨0, Nat.zero_le _, rfl, by simp [partsB], by simp, Lib.hid (ob_nil _ _), Below.refl _ _⟩
    case round =>
      obtain ⟨k, hk, rfl, hlen, hsz, O2, b2⟩ := hrel
      obtain ⟨A2, n2, rfl, hA2⟩ := id (ob_rb O2.out)
      clear hA2
      by_cases hlt : k < ps.length
      · obtain ⟨y, hy⟩ : ∃ y, ps[k]? = some y := ⟨_, List.getElem?_eq_getElem hlt⟩
        obtain ⟨ad, rfl, hc0, hc1, hc2⟩ := HC.out k y hy
        have c0 := cell_below b2 (World.block_lt_of_cell? w _ hc0) hc0
        have c1 := cell_below b2 (World.block_lt_of_cell? w _ hc1) hc1
        have c2 := cell_below b2 (World.block_lt_of_cell? w _ hc2) hc2
        have hyb := HGD.out y (List.mem_of_getElem? hy)
        have hts : ps.take (k + 1) = ps.take k ++ [y] := by rw [List.take_add_one, hy]; rfl
        have HTS := Lib.hid hts
        clear hy hts hc0 hc1 hc2
        have b3 := b2.alloc b2.size (.cells #[.bool y.text, .int .i64 y.n, .string y.s] 33)
        have hws : w.heap.size ≤ wr.heap.size := b2.size
        by_cases h3 : ((partsB (ps.take k)).length : Int) > 8192 ∨ (y.s.size : Int) > 4096
        · by_cases h4 : ((partsB (ps.take k)).length : Int) > 8192
          all_goals
            go_wp2
            go_ret2
            exact ⟨b3, .inl rfl⟩
        · have h4 : ((partsB (ps.take k)).length : Int) ≤ 8192 := by omega
          have h5 : (y.s.size : Int) ≤ 4096 := by omega
          have hpl := partB_len hyb (by omega)
          clear h3
          cases htx : y.text with
          | true =>
            rw [htx] at c0 b3
            have hpb : partB y = strB y.s.data.toList := by unfold partB; rw [if_pos htx]
            have HPB := Lib.hid hpb
            clear hpb
            go_wp2_with (go_at_call 13; refine (cordStr_c (HG.out.below HG.out.sz b3) (rc_alloc (ob_rb O2.out) _) y.s (by omega)).mono ?_; rintro e w3 ⟨v3, rfl, o3, b4⟩; have O3 := Lib.hid (own_lower o3 b3.size); clear o3)
            go_roundw
            case rel => exact ⟨k + 1, by omega, by go_num, by rw [HTS.out, partsB_snoc, List.length_append]; omega, by rw [HTS.out]; intro p hp; rcases List.mem_append.1 hp with hp | hp; exact hsz p hp; (simp at hp; subst hp; omega), by have := O3.out; refine Lib.hid ?_; rw [HTS.out, partsB_snoc, HPB.out]; exact this, b3.trans (b4.mono b3.size)⟩
            case measure => simp [intOf]; omega
          | false =>
            rw [htx] at c0 b3
            have hpb : partB y = numsB [y.n] := by unfold partB numsB; rw [if_neg (by simp [htx])]; simp
            have HPB := Lib.hid hpb
            clear hpb
            have b5 := b3.alloc b3.size (.cells #[.int .i64 y.n] 3)
            have hcall := cordNum_c (ns := [y.n]) (HG.out.below HG.out.sz b5) (rc_alloc (rc_alloc (ob_rb O2.out) (.cells #[.bool false, .int .i64 y.n, .string y.s] 33)) _) (ri_lit _ [y.n] _ 1 rfl rfl (by omega)) (by intro n hn; simp at hn; subst hn; exact hyb) (by simp; omega)
            rw [show (wr.alloc (.cells #[.bool false, .int .i64 y.n, .string y.s] 33)).heap.size = wr.heap.size + 1 from Array.size_push _] at hcall
            have HCL := Lib.hid hcall
            clear hcall
            go_wp2_with (go_at_call 12; refine (HCL.out).mono ?_; rintro e w3 ⟨v3, rfl, o3, b4⟩; have O3 := Lib.hid (own_lower (base' := w.heap.size) o3 (by have := b5.size; exact this)); clear o3)
            go_roundw
            case rel => exact ⟨k + 1, by omega, by go_num, by rw [HTS.out, partsB_snoc, List.length_append]; omega, by rw [HTS.out]; intro p hp; rcases List.mem_append.1 hp with hp | hp; exact hsz p hp; (simp at hp; subst hp; omega), by have := O3.out; refine Lib.hid ?_; rw [HTS.out, partsB_snoc, HPB.out]; exact this, b5.trans (b4.mono b5.size)⟩
            case measure => simp [intOf]; omega
      · have hd : ps.take k = ps := List.take_of_length_le (by omega)
        rw [hd] at O2 hlen hsz ⊢
        go_wp2
        go_ret2
        exact ⟨b2, .inr ⟨_, rfl, O2.out, by omega, by omega, hsz⟩⟩
end Go.Proofs.YtndklgbjpdlegaaDoor
