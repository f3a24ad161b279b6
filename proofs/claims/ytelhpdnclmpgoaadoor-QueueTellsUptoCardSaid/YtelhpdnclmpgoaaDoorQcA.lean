/- Layer 10: items, what is held, queues: plain, and as they lie in memory; the reference's sameness of messages and items. (Printed by gen/qca.py.) -/
import Derived.Test.YtelhpdnclmpgoaaDoorQbD
import Derived.Test.YtelhpdnclmpgoaaDoorTbH
namespace Go.Proofs.YtelhpdnclmpgoaaDoor
open Go Go.RowKit Go.Sort
set_option linter.unusedSimpArgs false
set_option linter.unusedVariables false

/-- An item. -/
structure Itm where
  seq : Int
  again : Bool
  m : Msg
/-- What is held. -/
structure Hld where
  tag : Int
  conn : Int
  sub : Int
  it : Itm
/-- A queue. -/
structure Que where
  name : ByteArray
  dur : Bool
  depth : Int
  seq : Int
  tag : Int
  items : List Itm
  held : List Hld
theorem msg_ext {a b : Msg} (h0 : a.top = b.top) (h1 : a.body = b.body) (h2 : a.ps = b.ps) (h3 : a.dur = b.dur) (h4 : a.unt = b.unt) : a = b := by
  cases a; cases b; simp_all

/-- An item as it lies: with its properties' slice. -/
structure ItR where
  it : Itm
  pa : Option Addr
  pc : Nat
def ItR.pv (x : ItR) : Value := .slice x.pa x.it.m.ps.length x.pc
def ItR.mcells (x : ItR) : List Value := [.string x.it.m.top, .string x.it.m.body, .slice x.pa x.it.m.ps.length x.pc, .bool x.it.m.dur, .int .i64 x.it.m.unt]
def ItR.cells (x : ItR) : List Value := [.int .i64 x.it.seq, .bool x.it.again, .string x.it.m.top, .string x.it.m.body, .slice x.pa x.it.m.ps.length x.pc, .bool x.it.m.dur, .int .i64 x.it.m.unt]
structure HlR where
  tag : Int
  conn : Int
  sub : Int
  r : ItR
def HlR.cells (x : HlR) : List Value := [.int .i64 x.tag, .int .i64 x.conn, .int .i64 x.sub, .int .i64 x.r.it.seq, .bool x.r.it.again, .string x.r.it.m.top, .string x.r.it.m.body, .slice x.r.pa x.r.it.m.ps.length x.r.pc, .bool x.r.it.m.dur, .int .i64 x.r.it.m.unt]
def HlR.pl (x : HlR) : Hld := ⟨x.tag, x.conn, x.sub, x.r.it⟩
/-- Its properties are there. -/
def ItR.ok (w : World) (x : ItR) : Prop := RPr w (.slice x.pa x.it.m.ps.length x.pc) x.it.m.ps
theorem ItR.ok.below {w w1 : World} {x : ItR} (h : x.ok w) (b : Below w.heap.size w w1) : x.ok w1 := rc_below h b
def RIt (w : World) (v : Value) (xs : List ItR) : Prop := RC w v xs.length 7 (xs.flatMap ItR.cells) ∧ ∀ x ∈ xs, x.ok w
def RHl (w : World) (v : Value) (xs : List HlR) : Prop := RC w v xs.length 10 (xs.flatMap HlR.cells) ∧ ∀ x ∈ xs, x.r.ok w
theorem RIt.below {w w1 : World} {v : Value} {xs : List ItR} (h : RIt w v xs) (b : Below w.heap.size w w1) : RIt w1 v xs := ⟨rc_below h.1 b, fun x hx => (h.2 x hx).below b⟩
theorem RHl.below {w w1 : World} {v : Value} {xs : List HlR} (h : RHl w v xs) (b : Below w.heap.size w w1) : RHl w1 v xs := ⟨rc_below h.1 b, fun x hx => (h.2 x hx).below b⟩
theorem items_at {w : World} {v : Value} {xs : List ItR} (h : RIt w v xs) : ∃ A c, v = .slice A xs.length c ∧ xs.length ≤ c ∧ ∀ k x, xs[k]? = some x → x.ok w ∧ ∃ a, A = some a ∧ w.cell? (a.add (k * 7)) = some (.int .i64 x.it.seq) ∧ w.cell? ⟨(a.add (k * 7)).block, (a.add (k * 7)).off + 1, none⟩ = some (.bool x.it.again) ∧ w.cell? ⟨(a.add (k * 7)).block, (a.add (k * 7)).off + 2, none⟩ = some (.string x.it.m.top) ∧ w.cell? ⟨(a.add (k * 7)).block, (a.add (k * 7)).off + 3, none⟩ = some (.string x.it.m.body) ∧ w.cell? ⟨(a.add (k * 7)).block, (a.add (k * 7)).off + 4, none⟩ = some (.slice x.pa x.it.m.ps.length x.pc) ∧ w.cell? ⟨(a.add (k * 7)).block, (a.add (k * 7)).off + 5, none⟩ = some (.bool x.it.m.dur) ∧ w.cell? ⟨(a.add (k * 7)).block, (a.add (k * 7)).off + 6, none⟩ = some (.int .i64 x.it.m.unt) := by
  obtain ⟨A, c, h1, h2, h3⟩ := row_at (f := ItR.cells) (by omega) (fun _ => rfl) h.1
  exact ⟨A, c, h1, h2, fun k x hx => by
    obtain ⟨a, ha, hc⟩ := h3 k x hx
    exact ⟨h.2 x (List.mem_of_getElem? hx), a, ha, hc 0 _ rfl, by rw [← add_one_of]; exact hc 1 _ rfl, by rw [← add_one_of]; exact hc 2 _ rfl, by rw [← add_one_of]; exact hc 3 _ rfl, by rw [← add_one_of]; exact hc 4 _ rfl, by rw [← add_one_of]; exact hc 5 _ rfl, by rw [← add_one_of]; exact hc 6 _ rfl⟩⟩
theorem held_at {w : World} {v : Value} {xs : List HlR} (h : RHl w v xs) : ∃ A c, v = .slice A xs.length c ∧ xs.length ≤ c ∧ ∀ k x, xs[k]? = some x → x.r.ok w ∧ ∃ a, A = some a ∧ w.cell? (a.add (k * 10)) = some (.int .i64 x.tag) ∧ w.cell? ⟨(a.add (k * 10)).block, (a.add (k * 10)).off + 1, none⟩ = some (.int .i64 x.conn) ∧ w.cell? ⟨(a.add (k * 10)).block, (a.add (k * 10)).off + 2, none⟩ = some (.int .i64 x.sub) ∧ w.cell? ⟨(a.add (k * 10)).block, (a.add (k * 10)).off + 3, none⟩ = some (.int .i64 x.r.it.seq) ∧ w.cell? ⟨(a.add (k * 10)).block, (a.add (k * 10)).off + 4, none⟩ = some (.bool x.r.it.again) ∧ w.cell? ⟨(a.add (k * 10)).block, (a.add (k * 10)).off + 5, none⟩ = some (.string x.r.it.m.top) ∧ w.cell? ⟨(a.add (k * 10)).block, (a.add (k * 10)).off + 6, none⟩ = some (.string x.r.it.m.body) ∧ w.cell? ⟨(a.add (k * 10)).block, (a.add (k * 10)).off + 7, none⟩ = some (.slice x.r.pa x.r.it.m.ps.length x.r.pc) ∧ w.cell? ⟨(a.add (k * 10)).block, (a.add (k * 10)).off + 8, none⟩ = some (.bool x.r.it.m.dur) ∧ w.cell? ⟨(a.add (k * 10)).block, (a.add (k * 10)).off + 9, none⟩ = some (.int .i64 x.r.it.m.unt) := by
  obtain ⟨A, c, h1, h2, h3⟩ := row_at (f := HlR.cells) (by omega) (fun _ => rfl) h.1
  exact ⟨A, c, h1, h2, fun k x hx => by
    obtain ⟨a, ha, hc⟩ := h3 k x hx
    exact ⟨h.2 x (List.mem_of_getElem? hx), a, ha, hc 0 _ rfl, by rw [← add_one_of]; exact hc 1 _ rfl, by rw [← add_one_of]; exact hc 2 _ rfl, by rw [← add_one_of]; exact hc 3 _ rfl, by rw [← add_one_of]; exact hc 4 _ rfl, by rw [← add_one_of]; exact hc 5 _ rfl, by rw [← add_one_of]; exact hc 6 _ rfl, by rw [← add_one_of]; exact hc 7 _ rfl, by rw [← add_one_of]; exact hc 8 _ rfl, by rw [← add_one_of]; exact hc 9 _ rfl⟩⟩
/-- A queue as it lies: its two rows. -/
structure QuR where
  ia : Option Addr
  ic : Nat
  is : List ItR
  ha : Option Addr
  hc : Nat
  hs : List HlR
def quV (q : Que) (r : QuR) : Array Value := #[.string q.name, .bool q.dur, .int .i64 q.depth, .int .i64 q.seq, .int .i64 q.tag, .slice r.ia r.is.length r.ic, .slice r.ha r.hs.length r.hc]
structure QuIn (w : World) (q : Que) (r : QuR) : Prop where
  items : RIt w (.slice r.ia r.is.length r.ic) r.is
  held : RHl w (.slice r.ha r.hs.length r.hc) r.hs
  ip : r.is.map ItR.it = q.items
  hp : r.hs.map HlR.pl = q.held
theorem QuIn.below {w w1 : World} {q : Que} {r : QuR} (h : QuIn w q r) (b : Below w.heap.size w w1) : QuIn w1 q r := ⟨h.items.below b, h.held.below b, h.ip, h.hp⟩

set_option maxRecDepth 100000 in
set_option maxHeartbeats 2000000 in
theorem sameMsg_c {w : World} (m m' : Msg) {A A' : Option Addr} {c c' : Nat} (hp : RPr w (.slice A m.ps.length c) m.ps) (hp' : RPr w (.slice A' m'.ps.length c') m'.ps) :
    Calls Tryd.prog 22 #[.agg #[.string m.top, .string m.body, .slice A m.ps.length c, .bool m.dur, .int .i64 m.unt], .agg #[.string m'.top, .string m'.body, .slice A' m'.ps.length c', .bool m'.dur, .int .i64 m'.unt]] w fun e w' => ∃ b : Bool, e = .returned (.bool b) ∧ (b = true ↔ m = m') ∧ Below w.heap.size w w' := by
  obtain ⟨tp, bd, ps, du, un⟩ := m
  obtain ⟨tp', bd', ps', du', un'⟩ := m'
  dsimp only at hp hp' ⊢
  have b0 := (Below.refl w.heap.size w).alloc (Nat.le_refl _) (.cells #[.string tp, .string bd, .slice A ps.length c, .bool du, .int .i64 un] 28)
  have b1 := b0.alloc b0.size (.cells #[.string tp', .string bd', .slice A' ps'.length c', .bool du', .int .i64 un'] 28)
  by_cases htp : tp = tp'
  · subst htp
    by_cases hbd : bd = bd'
    · subst hbd
      by_cases hdu : du = du'
      · subst hdu
        by_cases hun : un = un'
        · subst hun
          have HSA := Lib.hid (sameAll_c (rc_below hp b1) (rc_below hp' b1))
          clear hp hp'
          go_enter Tryd.func22, Tryd.ntmps22
          cases du <;> (
            go_wp2_with fail
            refine (HSA.out).mono ?_
            rintro e w2 ⟨b, rfl, hb, b2⟩
            have HX : Hid (b = true ↔ (ps = ps')) := Lib.hid hb
            clear hb
            go_wp2_with fail
            all_goals go_ret
            all_goals exact ⟨_, rfl, by rw [show ∀ x y d u, ((Msg.mk x y ps d u) = (Msg.mk x y ps' d u)) = (ps = ps') from fun x y d u => by simp]; exact HX.out, b1.trans (b2.mono b1.size)⟩)
        · have hne : ¬ (Msg.mk tp bd ps du un) = (Msg.mk tp bd ps' du un') := fun e => hun (by injection e)
          have HNE := Lib.hid hne
          have hun' : (un == un') = false := beq_eq_false_iff_ne.2 hun
          clear hp hp' hne hun
          go_enter Tryd.func22, Tryd.ntmps22
          cases du <;> (go_wp2_with fail; go_ret; exact ⟨false, rfl, ⟨(fun h => by cases h), fun h => absurd h HNE.out⟩, b1⟩)
      · have hne : ¬ (Msg.mk tp bd ps du un) = (Msg.mk tp bd ps' du' un') := fun e => hdu (by injection e)
        have HNE := Lib.hid hne
        clear hp hp' hne
        go_enter Tryd.func22, Tryd.ntmps22
        cases du <;> cases du' <;> (first | (exact absurd rfl hdu) | (clear hdu; go_wp2_with fail; go_ret; exact ⟨false, rfl, ⟨(fun h => by cases h), fun h => absurd h HNE.out⟩, b1⟩))
    · have hne : ¬ (Msg.mk tp bd ps du un) = (Msg.mk tp bd' ps' du' un') := fun e => hbd (by injection e)
      have HNE := Lib.hid hne
      have hbd' := str_ne hbd
      clear hp hp' hne hbd
      go_enter Tryd.func22, Tryd.ntmps22
      go_wp2_with fail
      go_ret
      exact ⟨false, rfl, ⟨(fun h => by cases h), fun h => absurd h HNE.out⟩, b1⟩
  · have hne : ¬ (Msg.mk tp bd ps du un) = (Msg.mk tp' bd' ps' du' un') := fun e => htp (by injection e)
    have HNE := Lib.hid hne
    have htp' := str_ne htp
    clear hp hp' hne htp
    go_enter Tryd.func22, Tryd.ntmps22
    go_wp2_with fail
    go_ret
    exact ⟨false, rfl, ⟨(fun h => by cases h), fun h => absurd h HNE.out⟩, b1⟩

set_option maxRecDepth 100000 in
set_option maxHeartbeats 2000000 in
theorem sameItem_c {w : World} (x x' : ItR) (hp : x.ok w) (hp' : x'.ok w) :
    Calls Tryd.prog 35 #[.agg #[.int .i64 x.it.seq, .bool x.it.again, .string x.it.m.top, .string x.it.m.body, .slice x.pa x.it.m.ps.length x.pc, .bool x.it.m.dur, .int .i64 x.it.m.unt], .agg #[.int .i64 x'.it.seq, .bool x'.it.again, .string x'.it.m.top, .string x'.it.m.body, .slice x'.pa x'.it.m.ps.length x'.pc, .bool x'.it.m.dur, .int .i64 x'.it.m.unt]] w fun e w' => ∃ b : Bool, e = .returned (.bool b) ∧ (b = true ↔ x.it = x'.it) ∧ Below w.heap.size w w' := by
  obtain ⟨⟨sq, ag, m⟩, A, c⟩ := x
  obtain ⟨⟨sq', ag', m'⟩, A', c'⟩ := x'
  unfold ItR.ok at hp hp'
  dsimp only at hp hp' ⊢
  have b0 := (Below.refl w.heap.size w).alloc (Nat.le_refl _) (.cells #[.int .i64 sq, .bool ag, .string m.top, .string m.body, .slice A m.ps.length c, .bool m.dur, .int .i64 m.unt] 44)
  have b1 := b0.alloc b0.size (.cells #[.int .i64 sq', .bool ag', .string m'.top, .string m'.body, .slice A' m'.ps.length c', .bool m'.dur, .int .i64 m'.unt] 44)
  by_cases hsq : sq = sq'
  · subst hsq
    by_cases hag : ag = ag'
    · subst hag
      have HSA := Lib.hid (sameMsg_c m m' (rc_below hp b1) (rc_below hp' b1))
      clear hp hp'
      go_enter Tryd.func35, Tryd.ntmps35
      cases ag <;> (
        go_wp2_with fail
        refine (HSA.out).mono ?_
        rintro e w2 ⟨b, rfl, hb, b2⟩
        have HX : Hid (b = true ↔ (m = m')) := Lib.hid hb
        clear hb
        go_wp2_with fail
        all_goals go_ret
        all_goals exact ⟨_, rfl, by rw [show ∀ x d, ((Itm.mk x d m) = (Itm.mk x d m')) = (m = m') from fun x d => by simp]; exact HX.out, b1.trans (b2.mono b1.size)⟩)
    · have hne : ¬ (Itm.mk sq ag m) = (Itm.mk sq ag' m') := fun e => hag (by injection e)
      have HNE := Lib.hid hne
      clear hp hp' hne
      go_enter Tryd.func35, Tryd.ntmps35
      cases ag <;> cases ag' <;> (first | (exact absurd rfl hag) | (clear hag; go_wp2_with fail; go_ret; exact ⟨false, rfl, ⟨(fun h => by cases h), fun h => absurd h HNE.out⟩, b1⟩))
  · have hne : ¬ (Itm.mk sq ag m) = (Itm.mk sq' ag' m') := fun e => hsq (by injection e)
    have HNE := Lib.hid hne
    have hsq' : (sq == sq') = false := beq_eq_false_iff_ne.2 hsq
    clear hp hp' hne hsq
    go_enter Tryd.func35, Tryd.ntmps35
    go_wp2_with fail
    go_ret
    exact ⟨false, rfl, ⟨(fun h => by cases h), fun h => absurd h HNE.out⟩, b1⟩
end Go.Proofs.YtelhpdnclmpgoaaDoor
