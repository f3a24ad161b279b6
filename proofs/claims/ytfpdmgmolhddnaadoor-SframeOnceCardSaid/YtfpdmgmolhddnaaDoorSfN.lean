/- Layer 18: wakes. (Printed by gen/sfn.py.) -/
import Derived.Test.YtfpdmgmolhddnaaDoorSfM
namespace Go.Proofs.YtfpdmgmolhddnaaDoor
open Go Go.RowKit Go.Sort
open Go.ChangeShapes Go.WideShapes Go.Deep
set_option linter.unusedSimpArgs false
set_option linter.unusedVariables false

theorem npost_noF {n : Nat} {z : Int} {w : World} {e : Ending} {w' : World} (h : NPost (noF, n, z) w e w') : Below w.heap.size w w' ∧ ∃ A cp, e = .returned (.tuple #[.agg #[.string ⟨#[]⟩, .slice A 0 cp, .string ⟨#[]⟩], .int .i64 n, .int .i64 z]) ∧ RHd w' (.slice A 0 cp) [] := h
theorem nextQ_of {s : L8} {b : Nat} {u : L8} {ls : List L8} {r : L8} {c : L8} (hb : blanksP s = b) (hu : (s.drop b).take 16384 = u) (hl : linesP u = some (c :: ls, r)) (hc : ls.length ≤ 32 ∧ commandP c = true) :
    nextQ s = match (match headersP (plainP c) ls with | none => none | some hs => bodyP ⟨c, hs, []⟩ (sizeP numT hs) r) with
      | none => (noF, 0, 40)
      | some none => if (s.drop b).length < 16384 then (noF, b, 41) else (noF, 0, 40)
      | some (some (f, q)) => (f, b + min (s.drop b).length 16384 - q.length, 0) := by
  have hw : wholeP numT u = match headersP (plainP c) ls with | none => none | some hs => bodyP ⟨c, hs, []⟩ (sizeP numT hs) r := by
    unfold wholeP; rw [hl]; simp only; rw [if_pos hc]; cases headersP (plainP c) ls <;> rfl
  unfold nextQ nextP
  rw [hb, hu, hw]
  rfl
theorem lines_w1 : linesP [83, 69, 78, 68, 10, 100, 101, 115, 116, 105, 110, 97, 116, 105, 111, 110, 58, 47, 113, 117, 101, 117, 101, 47, 97, 10, 120, 58, 97, 92, 99, 98, 10, 10, 104, 105, 0, 109, 111, 114, 101] = some ([[83, 69, 78, 68], [100, 101, 115, 116, 105, 110, 97, 116, 105, 111, 110, 58, 47, 113, 117, 101, 117, 101, 47, 97], [120, 58, 97, 92, 99, 98]], [104, 105, 0, 109, 111, 114, 101]) := by
  rw [lines_some (show cutP 10 [83, 69, 78, 68, 10, 100, 101, 115, 116, 105, 110, 97, 116, 105, 111, 110, 58, 47, 113, 117, 101, 117, 101, 47, 97, 10, 120, 58, 97, 92, 99, 98, 10, 10, 104, 105, 0, 109, 111, 114, 101] = some ([83, 69, 78, 68], [100, 101, 115, 116, 105, 110, 97, 116, 105, 111, 110, 58, 47, 113, 117, 101, 117, 101, 47, 97, 10, 120, 58, 97, 92, 99, 98, 10, 10, 104, 105, 0, 109, 111, 114, 101]) from rfl), if_neg (by decide)]
  rw [lines_some (show cutP 10 [100, 101, 115, 116, 105, 110, 97, 116, 105, 111, 110, 58, 47, 113, 117, 101, 117, 101, 47, 97, 10, 120, 58, 97, 92, 99, 98, 10, 10, 104, 105, 0, 109, 111, 114, 101] = some ([100, 101, 115, 116, 105, 110, 97, 116, 105, 111, 110, 58, 47, 113, 117, 101, 117, 101, 47, 97], [120, 58, 97, 92, 99, 98, 10, 10, 104, 105, 0, 109, 111, 114, 101]) from rfl), if_neg (by decide)]
  rw [lines_some (show cutP 10 [120, 58, 97, 92, 99, 98, 10, 10, 104, 105, 0, 109, 111, 114, 101] = some ([120, 58, 97, 92, 99, 98], [10, 104, 105, 0, 109, 111, 114, 101]) from rfl), if_neg (by decide)]
  rw [lines_some (show cutP 10 [10, 104, 105, 0, 109, 111, 114, 101] = some ([], [104, 105, 0, 109, 111, 114, 101]) from rfl), if_pos (show trimCR [] = [] from rfl)]
  rfl
theorem lines_w2 : linesP [83, 69, 78, 68, 10, 120, 58, 97, 92, 98, 10, 10, 0] = some ([[83, 69, 78, 68], [120, 58, 97, 92, 98]], [0]) := by
  rw [lines_some (show cutP 10 [83, 69, 78, 68, 10, 120, 58, 97, 92, 98, 10, 10, 0] = some ([83, 69, 78, 68], [120, 58, 97, 92, 98, 10, 10, 0]) from rfl), if_neg (by decide)]
  rw [lines_some (show cutP 10 [120, 58, 97, 92, 98, 10, 10, 0] = some ([120, 58, 97, 92, 98], [10, 0]) from rfl), if_neg (by decide)]
  rw [lines_some (show cutP 10 [10, 0] = some ([], [0]) from rfl), if_pos (show trimCR [] = [] from rfl)]
  rfl
theorem next_w1 : nextQ [10, 83, 69, 78, 68, 10, 100, 101, 115, 116, 105, 110, 97, 116, 105, 111, 110, 58, 47, 113, 117, 101, 117, 101, 47, 97, 10, 120, 58, 97, 92, 99, 98, 10, 10, 104, 105, 0, 109, 111, 114, 101] = (⟨[83, 69, 78, 68], [([100, 101, 115, 116, 105, 110, 97, 116, 105, 111, 110], [47, 113, 117, 101, 117, 101, 47, 97]), ([120], [97, 58, 98])], [104, 105]⟩, 38, 0) := by
  rw [nextQ_of (b := 1) (u := [83, 69, 78, 68, 10, 100, 101, 115, 116, 105, 110, 97, 116, 105, 111, 110, 58, 47, 113, 117, 101, 117, 101, 47, 97, 10, 120, 58, 97, 92, 99, 98, 10, 10, 104, 105, 0, 109, 111, 114, 101]) rfl rfl lines_w1 ⟨by decide, by decide⟩]
  rfl
theorem next_w2 : nextQ [83, 69, 78, 68, 10, 120, 58, 97, 92, 98, 10, 10, 0] = (noF, 0, 40) := by
  rw [nextQ_of (b := 0) (u := [83, 69, 78, 68, 10, 120, 58, 97, 92, 98, 10, 10, 0]) rfl rfl lines_w2 ⟨by decide, by decide⟩]
  rfl
set_option maxRecDepth 100000 in
set_option maxHeartbeats 2000000 in
theorem wakes_c {w : World} (hg : GM w) (hG : G w) : Calls Tryd.prog 5 #[] w fun e w' => e = .returned (.bool true) ∧ Below w.heap.size w w' := by
  have h1 := next_c (w := w) ⟨#[10, 83, 69, 78, 68, 10, 100, 101, 115, 116, 105, 110, 97, 116, 105, 111, 110, 58, 47, 113, 117, 101, 117, 101, 47, 97, 10, 120, 58, 97, 92, 99, 98, 10, 10, 104, 105, 0, 109, 111, 114, 101]⟩ (by decide) hg hG
  rw [show (⟨#[10, 83, 69, 78, 68, 10, 100, 101, 115, 116, 105, 110, 97, 116, 105, 111, 110, 58, 47, 113, 117, 101, 117, 101, 47, 97, 10, 120, 58, 97, 92, 99, 98, 10, 10, 104, 105, 0, 109, 111, 114, 101]⟩ : ByteArray).data.toList = [10, 83, 69, 78, 68, 10, 100, 101, 115, 116, 105, 110, 97, 116, 105, 111, 110, 58, 47, 113, 117, 101, 117, 101, 47, 97, 10, 120, 58, 97, 92, 99, 98, 10, 10, 104, 105, 0, 109, 111, 114, 101] from rfl, next_w1] at h1
  have H1 := Lib.hid h1
  have HG := Lib.hid hG
  have HGM := Lib.hid hg
  clear h1 hg hG
  go_enter Tryd.func5, Tryd.ntmps5
  go_wp2_with fail
  refine (H1.out).mono ?_
  rintro e w1 ⟨b1, A, cp, rfl, hr⟩
  go_upto_region 2 with fail
  obtain ⟨V, hV⟩ : ∃ V, V = w1.alloc (.cells #[.string ⟨#[83, 69, 78, 68]⟩, .slice A 2 cp, .string ⟨#[104, 105]⟩] 25) := ⟨_, rfl⟩
  try rw [← hV]
  have bV : Below w1.heap.size w1 V := by rw [hV]; exact (Below.refl _ _).alloc (Nat.le_refl _) _
  have eV : V.heap[w1.heap.size]? = some (.cells #[.string ⟨#[83, 69, 78, 68]⟩, .slice A 2 cp, .string ⟨#[104, 105]⟩] 25 (0, 0)) := by rw [hV]; exact heap_alloc_new w1 _
  have BV := Lib.hid (b1.trans (bV.mono b1.size))
  have HE : Hid (∀ w2, Below V.heap.size V w2 → ∀ j u, (#[.string ⟨#[83, 69, 78, 68]⟩, .slice A 2 cp, .string ⟨#[104, 105]⟩] : Array Value)[j]? = some u → w2.cell? ⟨w1.heap.size, j, none⟩ = some u) := Lib.hid (fun w2 b j u hj => (cell3 ((b.block _ (Array.getElem?_eq_some_iff.1 eV).1).trans eV) j).trans hj)
  have HR := Lib.hid (rhd_below hr bV)
  have x0 := HE.out V (Below.refl _ _) 0 _ rfl
  have x1 := HE.out V (Below.refl _ _) 1 _ rfl
  have x2 := HE.out V (Below.refl _ _) 2 _ rfl
  have hg1 := get_c (w := V) ⟨#[83, 69, 78, 68]⟩ ⟨#[104, 105]⟩ [([100, 101, 115, 116, 105, 110, 97, 116, 105, 111, 110], [47, 113, 117, 101, 117, 101, 47, 97]), ([120], [97, 58, 98])] ⟨#[100, 101, 115, 116, 105, 110, 97, 116, 105, 111, 110]⟩ HR.out (by decide)
  rw [show getP [([100, 101, 115, 116, 105, 110, 97, 116, 105, 111, 110], [47, 113, 117, 101, 117, 101, 47, 97]), ([120], [97, 58, 98])] (⟨#[100, 101, 115, 116, 105, 110, 97, 116, 105, 111, 110]⟩ : ByteArray).data.toList = some [47, 113, 117, 101, 117, 101, 47, 97] from rfl] at hg1
  have HG1 := Lib.hid hg1
  have HG2 : Hid (∀ w2, Below V.heap.size V w2 → Calls Tryd.prog 9 #[.agg #[.string ⟨#[83, 69, 78, 68]⟩, .slice A 2 cp, .string ⟨#[104, 105]⟩], .string ⟨#[120]⟩] w2 fun e w' => e = .returned (.tuple #[.string ⟨#[97, 58, 98]⟩, .bool true]) ∧ Below w2.heap.size w2 w') := Lib.hid (fun w2 b => by
    have h := get_c (w := w2) ⟨#[83, 69, 78, 68]⟩ ⟨#[104, 105]⟩ [([100, 101, 115, 116, 105, 110, 97, 116, 105, 111, 110], [47, 113, 117, 101, 117, 101, 47, 97]), ([120], [97, 58, 98])] ⟨#[120]⟩ (rhd_below HR.out b) (by decide)
    rw [show getP [([100, 101, 115, 116, 105, 110, 97, 116, 105, 111, 110], [47, 113, 117, 101, 117, 101, 47, 97]), ([120], [97, 58, 98])] (⟨#[120]⟩ : ByteArray).data.toList = some [97, 58, 98] from rfl] at h
    exact h)
  have hgv : getV (some [47, 113, 117, 101, 117, 101, 47, 97]) = .tuple #[.string ⟨#[47, 113, 117, 101, 117, 101, 47, 97]⟩, .bool true] := rfl
  clear hV bV eV hr b1 hg1
  go_wp2_with fail
  refine (HG1.out).mono ?_
  rintro e w2 ⟨rfl, b2⟩
  rw [hgv]
  have B2 := Lib.hid b2
  clear b2 x0 x1 x2 hgv HG1
  have x0 := HE.out w2 B2.out 0 _ rfl
  have x1 := HE.out w2 B2.out 1 _ rfl
  have x2 := HE.out w2 B2.out 2 _ rfl
  go_wp2_with fail
  refine (HG2.out w2 B2.out).mono ?_
  rintro e w3 ⟨rfl, b3⟩
  have B3 := Lib.hid (B2.out.trans (b3.mono B2.out.size))
  have h2 := next_c (w := w3) ⟨#[83, 69, 78, 68, 10, 120, 58, 97, 92, 98, 10, 10, 0]⟩ (by decide) (HGM.out.below (BV.out.trans (B3.out.mono BV.out.size))) (HG.out.on (BV.out.trans (B3.out.mono BV.out.size)))
  rw [show (⟨#[83, 69, 78, 68, 10, 120, 58, 97, 92, 98, 10, 10, 0]⟩ : ByteArray).data.toList = [83, 69, 78, 68, 10, 120, 58, 97, 92, 98, 10, 10, 0] from rfl, next_w2] at h2
  have H2 := Lib.hid (h2.mono fun _ _ h => npost_noF h)
  clear b3 x0 x1 x2 h2
  go_wp2_with fail
  refine (H2.out).mono ?_
  rintro e w4 ⟨b4, A', cp', rfl, hr4⟩
  go_upto_region 5 with fail
  obtain ⟨V5, hV5⟩ : ∃ V5, V5 = w4.alloc (.cells #[.string ⟨#[]⟩, .slice A' 0 cp', .string ⟨#[]⟩] 25) := ⟨_, rfl⟩
  try rw [← hV5]
  have b5 : Below w4.heap.size w4 V5 := by rw [hV5]; exact (Below.refl _ _).alloc (Nat.le_refl _) _
  have B5 := Lib.hid (B3.out.trans ((b4.trans (b5.mono b4.size)).mono B3.out.size))
  have x0 := HE.out V5 B5.out 0 _ rfl
  have x2 := HE.out V5 B5.out 2 _ rfl
  clear hV5 b5 b4 hr4
  go_wp2_with fail
  go_ret
  exact ⟨rfl, BV.out.trans (B5.out.mono BV.out.size)⟩
end Go.Proofs.YtfpdmgmolhddnaaDoor
