/- Layer 10: wakes. (Printed by gen/qew.py.) -/
import Derived.Test.YtelhpdnclmpgoaaDoorQeU
import Derived.Test.YtelhpdnclmpgoaaDoorQeC
import Derived.Test.YtelhpdnclmpgoaaDoorQcD
namespace Go.Proofs.YtelhpdnclmpgoaaDoor
open Go Go.RowKit Go.Sort
open Go.ChangeShapes Go.WideShapes Go.Deep
set_option linter.unusedSimpArgs false
set_option linter.unusedVariables false

def nQ : ByteArray := ⟨#[113]⟩
def stW : Nat → ByteArray
  | 0 => ⟨#[120]⟩
  | 1 => ⟨#[121]⟩
  | _ => ⟨#[122]⟩
def mW (s : ByteArray) : Msg := ⟨s, ⟨#[]⟩, [], false, 0⟩
def qW : Nat → Que
  | 0 => ⟨nQ, true, 5, 0, 0, [], []⟩
  | 1 => ⟨nQ, true, 5, 1, 0, [⟨1, false, mW ⟨#[120]⟩⟩], []⟩
  | 2 => ⟨nQ, true, 5, 2, 0, [⟨1, false, mW ⟨#[120]⟩⟩, ⟨2, false, mW ⟨#[121]⟩⟩], []⟩
  | 3 => ⟨nQ, true, 5, 3, 0, [⟨1, false, mW ⟨#[120]⟩⟩, ⟨2, false, mW ⟨#[121]⟩⟩, ⟨3, false, mW ⟨#[122]⟩⟩], []⟩
  | 4 => ⟨nQ, true, 5, 3, 1, [⟨2, false, mW ⟨#[121]⟩⟩, ⟨3, false, mW ⟨#[122]⟩⟩], [⟨1, 1, 0, ⟨1, false, mW ⟨#[120]⟩⟩⟩]⟩
  | 5 => ⟨nQ, true, 5, 3, 2, [⟨3, false, mW ⟨#[122]⟩⟩], [⟨1, 1, 0, ⟨1, false, mW ⟨#[120]⟩⟩⟩, ⟨2, 1, 0, ⟨2, false, mW ⟨#[121]⟩⟩⟩]⟩
  | _ => ⟨nQ, true, 5, 3, 2, [⟨1, true, mW ⟨#[120]⟩⟩, ⟨3, false, mW ⟨#[122]⟩⟩], [⟨2, 1, 0, ⟨2, false, mW ⟨#[121]⟩⟩⟩]⟩
theorem mW_fit (s : ByteArray) (h : s.size ≤ 1048576) : (mW s).fit := ⟨h, Nat.zero_le _, Nat.zero_le _, ⟨by show (-9223372036854775808 : Int) ≤ 0; decide, by show (0 : Int) ≤ 9223372036854775807; decide⟩, fun p h => by cases h⟩
theorem qW_fit0 : (qW 0).fit := ⟨by decide, by decide, by decide, (fun x hx => by cases hx), (fun x hx => by cases hx)⟩
theorem qW_fit1 : (qW 1).fit := ⟨by decide, by decide, by decide, (fun x hx => by
    have hx : x ∈ ([⟨1, false, mW ⟨#[120]⟩⟩] : List Itm) := hx
    simp only [List.mem_cons, List.not_mem_nil, or_false] at hx
    rcases hx with rfl <;> exact mW_fit _ (by decide)), (fun x hx => by cases hx)⟩
theorem qW_fit2 : (qW 2).fit := ⟨by decide, by decide, by decide, (fun x hx => by
    have hx : x ∈ ([⟨1, false, mW ⟨#[120]⟩⟩, ⟨2, false, mW ⟨#[121]⟩⟩] : List Itm) := hx
    simp only [List.mem_cons, List.not_mem_nil, or_false] at hx
    rcases hx with rfl | rfl <;> exact mW_fit _ (by decide)), (fun x hx => by cases hx)⟩
theorem qW_fit3 : (qW 3).fit := ⟨by decide, by decide, by decide, (fun x hx => by
    have hx : x ∈ ([⟨1, false, mW ⟨#[120]⟩⟩, ⟨2, false, mW ⟨#[121]⟩⟩, ⟨3, false, mW ⟨#[122]⟩⟩] : List Itm) := hx
    simp only [List.mem_cons, List.not_mem_nil, or_false] at hx
    rcases hx with rfl | rfl | rfl <;> exact mW_fit _ (by decide)), (fun x hx => by cases hx)⟩
theorem qW_fit4 : (qW 4).fit := ⟨by decide, by decide, by decide, (fun x hx => by
    have hx : x ∈ ([⟨2, false, mW ⟨#[121]⟩⟩, ⟨3, false, mW ⟨#[122]⟩⟩] : List Itm) := hx
    simp only [List.mem_cons, List.not_mem_nil, or_false] at hx
    rcases hx with rfl | rfl <;> exact mW_fit _ (by decide)), (fun x hx => by
    have hx : x ∈ ([⟨1, 1, 0, ⟨1, false, mW ⟨#[120]⟩⟩⟩] : List Hld) := hx
    simp only [List.mem_cons, List.not_mem_nil, or_false] at hx
    rcases hx with rfl <;> exact mW_fit _ (by decide))⟩
theorem qW_fit5 : (qW 5).fit := ⟨by decide, by decide, by decide, (fun x hx => by
    have hx : x ∈ ([⟨3, false, mW ⟨#[122]⟩⟩] : List Itm) := hx
    simp only [List.mem_cons, List.not_mem_nil, or_false] at hx
    rcases hx with rfl <;> exact mW_fit _ (by decide)), (fun x hx => by
    have hx : x ∈ ([⟨1, 1, 0, ⟨1, false, mW ⟨#[120]⟩⟩⟩, ⟨2, 1, 0, ⟨2, false, mW ⟨#[121]⟩⟩⟩] : List Hld) := hx
    simp only [List.mem_cons, List.not_mem_nil, or_false] at hx
    rcases hx with rfl | rfl <;> exact mW_fit _ (by decide))⟩
theorem newW : newQ nQ true 5 = (qW 0, 0) := by kernel_rfl
theorem pushW0 : pushR (qW 0) (mW (stW 0)) = (qW 1, 0) := by kernel_rfl
theorem pushW1 : pushR (qW 1) (mW (stW 1)) = (qW 2, 0) := by kernel_rfl
theorem pushW2 : pushR (qW 2) (mW (stW 2)) = (qW 3, 0) := by kernel_rfl
theorem takeW3 : takeR (qW 3) 1 0 true = (qW 4, 1, ⟨1, false, mW ⟨#[120]⟩⟩, 0) := by kernel_rfl
theorem takeW4 : takeR (qW 4) 1 0 true = (qW 5, 2, ⟨2, false, mW ⟨#[121]⟩⟩, 0) := by kernel_rfl
theorem settleW : settleR (qW 5) 1 1 true = (qW 6, 0) := by kernel_rfl
/-- The queue in its block K. -/
structure QS (w wr : World) (K : Nat) (q : Que) (r : QuR) : Prop where
  row : wr.heap[K]? = some (.cells #[.string q.name, .bool q.dur, .int .i64 q.depth, .int .i64 q.seq, .int .i64 q.tag, .slice r.ia r.is.length r.ic, .slice r.ha r.hs.length r.hc] 25 (0, 0))
  own : OwnW wr (K + 1) q r
  bel : Below w.heap.size w wr
  hK : w.heap.size ≤ K
theorem QS.cell {w wr : World} {K : Nat} {q : Que} {r : QuR} (h : QS w wr K q r) (j : Nat) (u : Value) (hj : (#[.string q.name, .bool q.dur, .int .i64 q.depth, .int .i64 q.seq, .int .i64 q.tag, .slice r.ia r.is.length r.ic, .slice r.ha r.hs.length r.hc] : Array Value)[j]? = some u) : wr.cell? ⟨K, j, none⟩ = some u := by simp only [World.cell?, h.row]; exact hj
theorem QS.lt {w wr : World} {K : Nat} {q : Que} {r : QuR} (h : QS w wr K q r) : K < wr.heap.size := (Array.getElem?_eq_some_iff.1 h.row).1
theorem OwnW.below {w w1 : World} {base : Nat} {q : Que} {r : QuR} (h : OwnW w base q r) (b : Below w.heap.size w w1) : OwnW w1 base q r :=
  ⟨own_below h.io b, own_below h.ho b, fun x hx => ⟨(h.ik x hx).1.below b, (h.ik x hx).2⟩, fun x hx => ⟨(h.hk x hx).1.below b, (h.hk x hx).2⟩, h.ip, h.hp⟩
theorem QS.below {w wr w1 : World} {K : Nat} {q : Que} {r : QuR} (h : QS w wr K q r) (b : Below wr.heap.size wr w1) : QS w w1 K q r :=
  ⟨(b.block K h.lt).trans h.row, h.own.below b, h.bel.trans (b.mono h.bel.size), h.hK⟩
/-- What a call has answered is written to the block. -/
theorem QS.put {w wr w1 : World} {K : Nat} {q q' : Que} {r r' : QuR} (h : QS w wr K q r) (b : Below wr.heap.size wr w1) (ho : OwnW w1 wr.heap.size q' r') :
    QS w (((((((w1.setCell ⟨K, 0, none⟩ (.string q'.name)).setCell ⟨K, 1, none⟩ (.bool q'.dur)).setCell ⟨K, 2, none⟩ (.int .i64 q'.depth)).setCell ⟨K, 3, none⟩ (.int .i64 q'.seq)).setCell ⟨K, 4, none⟩ (.int .i64 q'.tag)).setCell ⟨K, 5, none⟩ (.slice r'.ia r'.is.length r'.ic)).setCell ⟨K, 6, none⟩ (.slice r'.ha r'.hs.length r'.hc)) K q' r' :=
  ⟨cells7_at ((b.block K h.lt).trans h.row) _ _ _ _ _ _ _, (ho.far (grown7 _ _ _ _ _ _ _ _ _) h.lt).lower h.lt, below7 (h.bel.trans (b.mono h.bel.size)) h.hK _ _ _ _ _ _ _, h.hK⟩
theorem QS.put2 {w wr w5 : World} {K : Nat} {q q' : Que} {r r' : QuR} (h : QS w wr K q r) (b : Below wr.heap.size wr w5) (ho : OwnW w5 wr.heap.size q' r') (o : Obj) (e0 e1 e2 e3 e4 e5 e6 : Value) :
    QS w ((((((((((((((((w5.alloc o).setCell ⟨K, 0, none⟩ (.string q'.name)).setCell ⟨K, 1, none⟩ (.bool q'.dur)).setCell ⟨K, 2, none⟩ (.int .i64 q'.depth)).setCell ⟨K, 3, none⟩ (.int .i64 q'.seq)).setCell ⟨K, 4, none⟩ (.int .i64 q'.tag)).setCell ⟨K, 5, none⟩ (.slice r'.ia r'.is.length r'.ic)).setCell ⟨K, 6, none⟩ (.slice r'.ha r'.hs.length r'.hc))).setCell ⟨w5.heap.size, 0, none⟩ (e0)).setCell ⟨w5.heap.size, 1, none⟩ (e1)).setCell ⟨w5.heap.size, 2, none⟩ (e2)).setCell ⟨w5.heap.size, 3, none⟩ (e3)).setCell ⟨w5.heap.size, 4, none⟩ (e4)).setCell ⟨w5.heap.size, 5, none⟩ (e5)).setCell ⟨w5.heap.size, 6, none⟩ (e6)) K q' r' := by
  have b6 : Below w5.heap.size w5 (w5.alloc o) := (Below.refl _ _).alloc (Nat.le_refl _) _
  have hp := h.put (b.trans (b6.mono b.size)) (ho.below b6)
  have hK : K < w5.heap.size := Nat.lt_of_lt_of_le h.lt b.size
  exact ⟨set7_ne (by omega) _ _ _ _ _ _ _ hp.row, hp.own.setFB (ho.fb (Nat.le_refl _)) (grown7 _ _ _ _ _ _ _ _ _), below7 hp.bel (Nat.le_trans h.bel.size b.size) _ _ _ _ _ _ _, h.hK⟩
theorem pushW {k : Nat} (hk : k < 3) : pushR (qW k) (mW (stW k)) = (qW (k + 1), 0) ∧ (qW k).fit ∧ (stW k).size ≤ 1048576 := by
  rcases k with _ | _ | _ | k
  · exact ⟨pushW0, qW_fit0, by decide⟩
  · exact ⟨pushW1, qW_fit1, by decide⟩
  · exact ⟨pushW2, qW_fit2, by decide⟩
  · omega
theorem pushW_c {w wr : World} {K : Nat} {r : QuR} {k : Nat} (hk : k < 3) (h : QS w wr K (qW k) r) (hg : GM w) :
    Calls Tryd.prog 26 #[.agg #[.string (qW k).name, .bool (qW k).dur, .int .i64 (qW k).depth, .int .i64 (qW k).seq, .int .i64 (qW k).tag, .slice r.ia r.is.length r.ic, .slice r.ha r.hs.length r.hc], .agg #[.string (stW k), .string ⟨#[]⟩, .slice none 0 0, .bool false, .int .i64 0]] wr fun e w' => ∃ (r' : QuR), e = .returned (.tuple #[.agg #[.string (qW (k + 1)).name, .bool (qW (k + 1)).dur, .int .i64 (qW (k + 1)).depth, .int .i64 (qW (k + 1)).seq, .int .i64 (qW (k + 1)).tag, .slice r'.ia r'.is.length r'.ic, .slice r'.ha r'.hs.length r'.hc], .int .i64 0]) ∧ OwnW w' wr.heap.size (qW (k + 1)) r' ∧ Below wr.heap.size wr w' := by
  obtain ⟨h1, h2, h3⟩ := pushW hk
  refine (push_c (w := wr) (qW k) r (mW (stW k)) (A := none) (c := 0) h.own.qin h2 ⟨none, 0, rfl, Nat.le_refl _, by decide, rfl, fun _ => rfl, fun j u h => by simp [mW] at h⟩ (mW_fit _ h3) (hg.below h.bel)).mono ?_
  rw [h1]
  rintro e w' ⟨r', rfl, ho, b⟩
  exact ⟨r', rfl, ho, b⟩
theorem takeW3_c {w wr : World} {K : Nat} {r : QuR} (h : QS w wr K (qW 3) r) (hg : GM w) :
    Calls Tryd.prog 27 #[.agg #[.string (qW 3).name, .bool (qW 3).dur, .int .i64 (qW 3).depth, .int .i64 (qW 3).seq, .int .i64 (qW 3).tag, .slice r.ia r.is.length r.ic, .slice r.ha r.hs.length r.hc], .int .i64 1, .int .i64 0, .bool true] wr fun e w' => ∃ (r' : QuR) (x' : ItR), e = .returned (.tuple #[.agg #[.string (qW 4).name, .bool (qW 4).dur, .int .i64 (qW 4).depth, .int .i64 (qW 4).seq, .int .i64 (qW 4).tag, .slice r'.ia r'.is.length r'.ic, .slice r'.ha r'.hs.length r'.hc], .int .i64 1, .agg #[.int .i64 x'.it.seq, .bool x'.it.again, .string x'.it.m.top, .string x'.it.m.body, .slice x'.pa x'.it.m.ps.length x'.pc, .bool x'.it.m.dur, .int .i64 x'.it.m.unt], .int .i64 0]) ∧ OwnW w' wr.heap.size (qW 4) r' ∧ Below wr.heap.size wr w' := by
  refine (take_c (w := wr) (qW 3) r 1 0 true h.own.qin qW_fit3 (hg.below h.bel)).mono ?_
  rw [takeW3]
  rintro e w' ⟨r', x', rfl, ho, -, -, -, b⟩
  exact ⟨r', x', rfl, ho, b⟩
theorem takeW4_c {w wr : World} {K : Nat} {r : QuR} (h : QS w wr K (qW 4) r) (hg : GM w) :
    Calls Tryd.prog 27 #[.agg #[.string (qW 4).name, .bool (qW 4).dur, .int .i64 (qW 4).depth, .int .i64 (qW 4).seq, .int .i64 (qW 4).tag, .slice r.ia r.is.length r.ic, .slice r.ha r.hs.length r.hc], .int .i64 1, .int .i64 0, .bool true] wr fun e w' => ∃ (r' : QuR) (x' : ItR), e = .returned (.tuple #[.agg #[.string (qW 5).name, .bool (qW 5).dur, .int .i64 (qW 5).depth, .int .i64 (qW 5).seq, .int .i64 (qW 5).tag, .slice r'.ia r'.is.length r'.ic, .slice r'.ha r'.hs.length r'.hc], .int .i64 2, .agg #[.int .i64 x'.it.seq, .bool x'.it.again, .string x'.it.m.top, .string x'.it.m.body, .slice x'.pa x'.it.m.ps.length x'.pc, .bool x'.it.m.dur, .int .i64 x'.it.m.unt], .int .i64 0]) ∧ OwnW w' wr.heap.size (qW 5) r' ∧ Below wr.heap.size wr w' := by
  refine (take_c (w := wr) (qW 4) r 1 0 true h.own.qin qW_fit4 (hg.below h.bel)).mono ?_
  rw [takeW4]
  rintro e w' ⟨r', x', rfl, ho, -, -, -, b⟩
  exact ⟨r', x', rfl, ho, b⟩
theorem settleW_c {w wr : World} {K : Nat} {r : QuR} (h : QS w wr K (qW 5) r) (hg : GM w) :
    Calls Tryd.prog 28 #[.agg #[.string (qW 5).name, .bool (qW 5).dur, .int .i64 (qW 5).depth, .int .i64 (qW 5).seq, .int .i64 (qW 5).tag, .slice r.ia r.is.length r.ic, .slice r.ha r.hs.length r.hc], .int .i64 1, .int .i64 1, .bool true] wr fun e w' => ∃ (r' : QuR), e = .returned (.tuple #[.agg #[.string (qW 6).name, .bool (qW 6).dur, .int .i64 (qW 6).depth, .int .i64 (qW 6).seq, .int .i64 (qW 6).tag, .slice r'.ia r'.is.length r'.ic, .slice r'.ha r'.hs.length r'.hc], .int .i64 0]) ∧ OwnW w' wr.heap.size (qW 6) r' ∧ Below wr.heap.size wr w' := by
  refine (settle_c (w := wr) (qW 5) r 1 1 true h.own.qin qW_fit5 (hg.below h.bel)).mono ?_
  rw [settleW]
  rintro e w' ⟨r', rfl, ho, b⟩
  exact ⟨r', rfl, ho, b⟩
set_option maxRecDepth 100000 in
set_option maxHeartbeats 4000000 in
theorem wakes_c {w : World} (hg : GM w) : Calls Tryd.prog 8 #[] w fun e w' => e = .returned (.bool true) ∧ Below w.heap.size w w' := by
  have hnew := new_c (w := w) nQ true 5 (by decide)
  rw [newW] at hnew
  have HN : Hid (Calls Tryd.prog 10 #[.string ⟨#[113]⟩, .bool true, .int .i64 5] w fun e w' => e = .returned (.tuple #[.agg #[.string (qW 0).name, .bool (qW 0).dur, .int .i64 (qW 0).depth, .int .i64 (qW 0).seq, .int .i64 (qW 0).tag, .slice none 0 0, .slice none 0 0], .int .i64 0]) ∧ Below w.heap.size w w') := Lib.hid hnew
  have HGM := Lib.hid hg
  clear hnew hg
  go_enter Tryd.func8, Tryd.ntmps8
  go_wp2_with fail
  refine (HN.out).mono ?_
  rintro e w1 ⟨rfl, b1⟩
  have B1 := Lib.hid b1
  clear b1 HN
  go_upto_region 4 with fail
  obtain ⟨W2, hW2⟩ : ∃ W2, W2 = w1.alloc (.cells #[.string (qW 0).name, .bool (qW 0).dur, .int .i64 (qW 0).depth, .int .i64 (qW 0).seq, .int .i64 (qW 0).tag, .slice none 0 0, .slice none 0 0] 25) := ⟨_, rfl⟩
  rw [← hW2]
  have hs2 : QS w W2 w1.heap.size (qW 0) noR := by
    rw [hW2]
    exact ⟨heap_alloc_new w1 _, ⟨own_nil _ _ _ _, own_nil _ _ _ _, (fun x h => by cases h), (fun x h => by cases h), rfl, rfl⟩, B1.out.alloc B1.out.size _, B1.out.size⟩
  have HS2 := Lib.hid hs2
  have HK1 : Hid (w1.heap.size < W2.heap.size) := Lib.hid hs2.lt
  clear hW2 hs2
  go_upto_region 5 with fail
  have HS3 : Hid (QS w (W2.alloc (.cells #[.string ⟨#[120]⟩, .string ⟨#[121]⟩, .string ⟨#[122]⟩] 9)) w1.heap.size (qW 0) noR) := Lib.hid (HS2.out.below ((Below.refl _ _).alloc (Nat.le_refl _) _))
  have HR3 : Hid ((W2.alloc (.cells #[.string ⟨#[120]⟩, .string ⟨#[121]⟩, .string ⟨#[122]⟩] 9)).heap[W2.heap.size]? = some (.cells #[.string ⟨#[120]⟩, .string ⟨#[121]⟩, .string ⟨#[122]⟩] 9 (0, 0))) := Lib.hid (heap_alloc_new W2 _)
  clear HS2
  go_loopw [2, 4, 18] (fun _ _ i wr => ∃ (k : Nat) (r : QuR), k ≤ 3 ∧ i = .int .i64 k ∧ Hid (QS w wr w1.heap.size (qW k) r) ∧ Hid (wr.heap[W2.heap.size]? = some (.cells #[.string ⟨#[120]⟩, .string ⟨#[121]⟩, .string ⟨#[122]⟩] 9 (0, 0)))) (fun _ _ i _ => 3 - (intOf i).toNat)
  case atStart => exact ⟨0, noR, by decide, rfl, HS3, HR3⟩
  case round =>
    clear HS3 HR3
    obtain ⟨k, r, hk, rfl, HS, HR⟩ := hrel
    by_cases hlt : k < 3
    · have hs : wr.cell? ⟨W2.heap.size, k, none⟩ = some (.string (stW k)) := by
        rcases k with _ | _ | _ | k
        · simp only [World.cell?, HR.out]; rfl
        · simp only [World.cell?, HR.out]; rfl
        · simp only [World.cell?, HR.out]; rfl
        · omega
      have hkI : (k : Int) < 3 := by omega
      have HLT := Lib.hid hlt
      have HPU := Lib.hid (pushW_c hlt HS.out HGM.out)
      have HWK1 := Lib.hid (wk1 k 3 hlt (by decide))
      have z0 := HS.out.cell 0 _ rfl
      have z1 := HS.out.cell 1 _ rfl
      have z2 := HS.out.cell 2 _ rfl
      have z3 := HS.out.cell 3 _ rfl
      have z4 := HS.out.cell 4 _ rfl
      have z5 := HS.out.cell 5 _ rfl
      have z6 := HS.out.cell 6 _ rfl
      clear hlt hk
      go_wp2_with fail
      refine (HPU.out).mono ?_
      rintro e w3 ⟨r', rfl, ho, b3⟩
      clear z0 z1 z2 z3 z4 z5 z6 hs
      have HS4 := Lib.hid (HS.out.below b3)
      have HPT := Lib.hid (HS.out.put b3 ho)
      have HRR : Hid (w3.heap[W2.heap.size]? = some (.cells #[.string ⟨#[120]⟩, .string ⟨#[121]⟩, .string ⟨#[122]⟩] 9 (0, 0))) := Lib.hid ((b3.block _ (Array.getElem?_eq_some_iff.1 HR.out).1).trans HR.out)
      have fz : ∀ j, w3.frozen? ⟨w1.heap.size, j, none⟩ = false := fun j => frozen_of_row _ _ j _ _ HS4.out.row
      have z0 := HS4.out.cell 0 _ rfl
      have z1 := HS4.out.cell 1 _ rfl
      have z2 := HS4.out.cell 2 _ rfl
      have z3 := HS4.out.cell 3 _ rfl
      have z4 := HS4.out.cell 4 _ rfl
      have z5 := HS4.out.cell 5 _ rfl
      have z6 := HS4.out.cell 6 _ rfl
      clear ho b3
      go_wp2_with fail
      go_roundw
      case rel => exact ⟨k + 1, r', HLT.out, by first | rfl | (rw [HWK1.out]; rfl), HPT, Lib.hid (set7_ne (by have := HK1.out; omega) _ _ _ _ _ _ _ HRR.out)⟩
      case measure => first | exact round_less1 HLT.out | (rw [HWK1.out]; exact round_less1 HLT.out)
    · have hk3 : k = 3 := by omega
      subst hk3
      clear hlt hk HR
      have HSq := HS
      have HT := Lib.hid (takeW3_c HSq.out HGM.out)
      obtain ⟨Q4, hQ4⟩ : ∃ Q, Q = qW 4 := ⟨_, rfl⟩
      rw [← hQ4] at HT
      have HQ4 := Lib.hid hQ4
      obtain ⟨Q3, hQ3⟩ : ∃ Q, Q = qW 3 := ⟨_, rfl⟩
      rw [← hQ3] at HS HT
      clear hQ3
      clear hQ4
      have z0 := HS.out.cell 0 _ rfl
      have z1 := HS.out.cell 1 _ rfl
      have z2 := HS.out.cell 2 _ rfl
      have z3 := HS.out.cell 3 _ rfl
      have z4 := HS.out.cell 4 _ rfl
      have z5 := HS.out.cell 5 _ rfl
      have z6 := HS.out.cell 6 _ rfl
      go_wp2_with fail
      refine (HT.out).mono ?_
      rintro e w5 ⟨r5, x5, rfl, ho, b3⟩
      clear z0 z1 z2 z3 z4 z5 z6 HT
      have HS4 := Lib.hid (HS.out.below b3)
      have nk1 : ¬ w5.heap.size = w1.heap.size := by have := HS4.out.lt; omega
      have nk2 : ¬ w1.heap.size = w5.heap.size := by omega
      have z0 := HS4.out.cell 0 _ rfl
      have z1 := HS4.out.cell 1 _ rfl
      have z2 := HS4.out.cell 2 _ rfl
      have z3 := HS4.out.cell 3 _ rfl
      have z4 := HS4.out.cell 4 _ rfl
      have z5 := HS4.out.cell 5 _ rfl
      have z6 := HS4.out.cell 6 _ rfl
      have zx0 := fun o => Lib.cell?_alloc_some (W := w5) o z0
      have zx1 := fun o => Lib.cell?_alloc_some (W := w5) o z1
      have zx2 := fun o => Lib.cell?_alloc_some (W := w5) o z2
      have zx3 := fun o => Lib.cell?_alloc_some (W := w5) o z3
      have zx4 := fun o => Lib.cell?_alloc_some (W := w5) o z4
      have zx5 := fun o => Lib.cell?_alloc_some (W := w5) o z5
      have zx6 := fun o => Lib.cell?_alloc_some (W := w5) o z6
      have fz : ∀ o j, (w5.alloc o).frozen? ⟨w1.heap.size, j, none⟩ = false := fun o j => frozen_of_row _ _ j _ _ (alloc_keep o HS4.out.row)
      have HPT := Lib.hid (HS.out.put2 b3 ho (.cells #[.int .i64 0, .bool false, .string ⟨#[]⟩, .string ⟨#[]⟩, .slice none 0 0, .bool false, .int .i64 0] 44) (.int .i64 x5.it.seq) (.bool x5.it.again) (.string x5.it.m.top) (.string x5.it.m.body) (.slice x5.pa x5.it.m.ps.length x5.pc) (.bool x5.it.m.dur) (.int .i64 x5.it.m.unt))
      clear ho b3
      go_upto_region 12 with fail
      obtain ⟨V5, hV⟩ : ∃ V, V = ((((((((((((((((w5.alloc (.cells #[.int .i64 0, .bool false, .string ⟨#[]⟩, .string ⟨#[]⟩, .slice none 0 0, .bool false, .int .i64 0] 44)).setCell ⟨w1.heap.size, 0, none⟩ (.string Q4.name)).setCell ⟨w1.heap.size, 1, none⟩ (.bool Q4.dur)).setCell ⟨w1.heap.size, 2, none⟩ (.int .i64 Q4.depth)).setCell ⟨w1.heap.size, 3, none⟩ (.int .i64 Q4.seq)).setCell ⟨w1.heap.size, 4, none⟩ (.int .i64 Q4.tag)).setCell ⟨w1.heap.size, 5, none⟩ (.slice r5.ia r5.is.length r5.ic)).setCell ⟨w1.heap.size, 6, none⟩ (.slice r5.ha r5.hs.length r5.hc))).setCell ⟨w5.heap.size, 0, none⟩ (.int .i64 x5.it.seq)).setCell ⟨w5.heap.size, 1, none⟩ (.bool x5.it.again)).setCell ⟨w5.heap.size, 2, none⟩ (.string x5.it.m.top)).setCell ⟨w5.heap.size, 3, none⟩ (.string x5.it.m.body)).setCell ⟨w5.heap.size, 4, none⟩ (.slice x5.pa x5.it.m.ps.length x5.pc)).setCell ⟨w5.heap.size, 5, none⟩ (.bool x5.it.m.dur)).setCell ⟨w5.heap.size, 6, none⟩ (.int .i64 x5.it.m.unt)) := ⟨_, rfl⟩
      rw [← hV] at HPT
      rw [← hV]
      clear hV HS HSq HS4 fz z0 z1 z2 z3 z4 z5 z6 zx0 zx1 zx2 zx3 zx4 zx5 zx6
      have HSq := HPT
      rw [HQ4.out] at HSq
      have HS := HPT
      clear HPT
      have HT := Lib.hid (takeW4_c HSq.out HGM.out)
      obtain ⟨Q5, hQ5⟩ : ∃ Q, Q = qW 5 := ⟨_, rfl⟩
      rw [← hQ5] at HT
      have HQ5 := Lib.hid hQ5
      rw [← HQ4.out] at HT
      clear hQ5
      have z0 := HS.out.cell 0 _ rfl
      have z1 := HS.out.cell 1 _ rfl
      have z2 := HS.out.cell 2 _ rfl
      have z3 := HS.out.cell 3 _ rfl
      have z4 := HS.out.cell 4 _ rfl
      have z5 := HS.out.cell 5 _ rfl
      have z6 := HS.out.cell 6 _ rfl
      go_wp2_with fail
      refine (HT.out).mono ?_
      rintro e w6 ⟨r6, x6, rfl, ho, b3⟩
      clear z0 z1 z2 z3 z4 z5 z6 HT
      have HS4 := Lib.hid (HS.out.below b3)
      have nk1 : ¬ w6.heap.size = w1.heap.size := by have := HS4.out.lt; omega
      have nk2 : ¬ w1.heap.size = w6.heap.size := by omega
      have z0 := HS4.out.cell 0 _ rfl
      have z1 := HS4.out.cell 1 _ rfl
      have z2 := HS4.out.cell 2 _ rfl
      have z3 := HS4.out.cell 3 _ rfl
      have z4 := HS4.out.cell 4 _ rfl
      have z5 := HS4.out.cell 5 _ rfl
      have z6 := HS4.out.cell 6 _ rfl
      have zx0 := fun o => Lib.cell?_alloc_some (W := w6) o z0
      have zx1 := fun o => Lib.cell?_alloc_some (W := w6) o z1
      have zx2 := fun o => Lib.cell?_alloc_some (W := w6) o z2
      have zx3 := fun o => Lib.cell?_alloc_some (W := w6) o z3
      have zx4 := fun o => Lib.cell?_alloc_some (W := w6) o z4
      have zx5 := fun o => Lib.cell?_alloc_some (W := w6) o z5
      have zx6 := fun o => Lib.cell?_alloc_some (W := w6) o z6
      have fz : ∀ o j, (w6.alloc o).frozen? ⟨w1.heap.size, j, none⟩ = false := fun o j => frozen_of_row _ _ j _ _ (alloc_keep o HS4.out.row)
      have HPT := Lib.hid (HS.out.put2 b3 ho (.cells #[.int .i64 0, .bool false, .string ⟨#[]⟩, .string ⟨#[]⟩, .slice none 0 0, .bool false, .int .i64 0] 44) (.int .i64 x6.it.seq) (.bool x6.it.again) (.string x6.it.m.top) (.string x6.it.m.body) (.slice x6.pa x6.it.m.ps.length x6.pc) (.bool x6.it.m.dur) (.int .i64 x6.it.m.unt))
      clear ho b3
      go_upto_region 13 with fail
      obtain ⟨V6, hV⟩ : ∃ V, V = ((((((((((((((((w6.alloc (.cells #[.int .i64 0, .bool false, .string ⟨#[]⟩, .string ⟨#[]⟩, .slice none 0 0, .bool false, .int .i64 0] 44)).setCell ⟨w1.heap.size, 0, none⟩ (.string Q5.name)).setCell ⟨w1.heap.size, 1, none⟩ (.bool Q5.dur)).setCell ⟨w1.heap.size, 2, none⟩ (.int .i64 Q5.depth)).setCell ⟨w1.heap.size, 3, none⟩ (.int .i64 Q5.seq)).setCell ⟨w1.heap.size, 4, none⟩ (.int .i64 Q5.tag)).setCell ⟨w1.heap.size, 5, none⟩ (.slice r6.ia r6.is.length r6.ic)).setCell ⟨w1.heap.size, 6, none⟩ (.slice r6.ha r6.hs.length r6.hc))).setCell ⟨w6.heap.size, 0, none⟩ (.int .i64 x6.it.seq)).setCell ⟨w6.heap.size, 1, none⟩ (.bool x6.it.again)).setCell ⟨w6.heap.size, 2, none⟩ (.string x6.it.m.top)).setCell ⟨w6.heap.size, 3, none⟩ (.string x6.it.m.body)).setCell ⟨w6.heap.size, 4, none⟩ (.slice x6.pa x6.it.m.ps.length x6.pc)).setCell ⟨w6.heap.size, 5, none⟩ (.bool x6.it.m.dur)).setCell ⟨w6.heap.size, 6, none⟩ (.int .i64 x6.it.m.unt)) := ⟨_, rfl⟩
      rw [← hV] at HPT
      rw [← hV]
      clear hV HS HSq HS4 fz z0 z1 z2 z3 z4 z5 z6 zx0 zx1 zx2 zx3 zx4 zx5 zx6
      have HSq := HPT
      rw [HQ5.out] at HSq
      have HS := HPT
      clear HPT
      have HT := Lib.hid (settleW_c HSq.out HGM.out)
      obtain ⟨Q6, hQ6⟩ : ∃ Q, Q = qW 6 := ⟨_, rfl⟩
      rw [← hQ6] at HT
      have HQ6 := Lib.hid hQ6
      rw [← HQ5.out] at HT
      clear hQ6
      have z0 := HS.out.cell 0 _ rfl
      have z1 := HS.out.cell 1 _ rfl
      have z2 := HS.out.cell 2 _ rfl
      have z3 := HS.out.cell 3 _ rfl
      have z4 := HS.out.cell 4 _ rfl
      have z5 := HS.out.cell 5 _ rfl
      have z6 := HS.out.cell 6 _ rfl
      go_wp2_with fail
      refine (HT.out).mono ?_
      rintro e w8 ⟨r8, rfl, ho, b3⟩
      clear z0 z1 z2 z3 z4 z5 z6 HT
      have HS4 := Lib.hid (HS.out.below b3)
      have z0 := HS4.out.cell 0 _ rfl
      have z1 := HS4.out.cell 1 _ rfl
      have z2 := HS4.out.cell 2 _ rfl
      have z3 := HS4.out.cell 3 _ rfl
      have z4 := HS4.out.cell 4 _ rfl
      have z5 := HS4.out.cell 5 _ rfl
      have z6 := HS4.out.cell 6 _ rfl
      have fz : ∀ j, w8.frozen? ⟨w1.heap.size, j, none⟩ = false := fun j => frozen_of_row _ _ j _ _ HS4.out.row
      have HPT := Lib.hid (HS.out.put b3 ho)
      clear ho b3
      go_upto_region 16 with fail
      obtain ⟨V8, hV⟩ : ∃ V, V = ((((((((w8).setCell ⟨w1.heap.size, 0, none⟩ (.string Q6.name)).setCell ⟨w1.heap.size, 1, none⟩ (.bool Q6.dur)).setCell ⟨w1.heap.size, 2, none⟩ (.int .i64 Q6.depth)).setCell ⟨w1.heap.size, 3, none⟩ (.int .i64 Q6.seq)).setCell ⟨w1.heap.size, 4, none⟩ (.int .i64 Q6.tag)).setCell ⟨w1.heap.size, 5, none⟩ (.slice r8.ia r8.is.length r8.ic)).setCell ⟨w1.heap.size, 6, none⟩ (.slice r8.ha r8.hs.length r8.hc)) := ⟨_, rfl⟩
      rw [← hV] at HPT
      rw [HQ6.out] at HPT
      rw [← hV]
      clear hV HS HSq HS4 fz z0 z1 z2 z3 z4 z5 z6
      have hln : r8.is.length = 2 := by have h := congrArg List.length HPT.out.own.ip; rw [List.length_map] at h; exact h
      obtain ⟨g, hg⟩ : ∃ g, r8.ia = some ⟨g, 0, none⟩ := by
        rcases HPT.out.own.io.2 with ⟨_, h0⟩ | ⟨g, cc, cur, h1, _⟩
        · omega
        · injection h1 with h1; exact ⟨g, h1⟩
      obtain ⟨x, hx⟩ : ∃ x, r8.is[0]? = some x := ⟨_, List.getElem?_eq_getElem (by omega)⟩
      have hxi : x.it = ⟨1, true, mW ⟨#[120]⟩⟩ := by
        have h := congrArg (fun l => l[0]?) HPT.out.own.ip
        simp only [List.getElem?_map, hx] at h
        injection h
      have hc : ∀ j u, x.cells[j]? = some u → V8.cell? ⟨g, 0 * 7 + j, none⟩ = some u := fun j u hu => by
        have ho := HPT.out.own.io
        rw [hg] at ho
        exact own_cell (f := ItR.cells) (s := 7) (by omega) (fun _ => rfl) ho hx j u hu
      have c1 : V8.cell? ⟨g, 1, none⟩ = some (.bool true) := by have h := hc 1 _ rfl; rw [hxi] at h; exact h
      have c2 : V8.cell? ⟨g, 2, none⟩ = some (.string ⟨#[120]⟩) := by have h := hc 2 _ rfl; rw [hxi] at h; exact h
      have z5 : V8.cell? ⟨w1.heap.size, 5, none⟩ = some (.slice (some ⟨g, 0, none⟩) 2 r8.ic) := by have h := HPT.out.cell 5 _ rfl; rw [hg, hln] at h; exact h
      have HBE := Lib.hid HPT.out.bel
      clear HPT hc hxi hx hln hg
      go_wp2_with fail
      go_ret
      exact ⟨rfl, HBE.out⟩
end Go.Proofs.YtelhpdnclmpgoaaDoor
