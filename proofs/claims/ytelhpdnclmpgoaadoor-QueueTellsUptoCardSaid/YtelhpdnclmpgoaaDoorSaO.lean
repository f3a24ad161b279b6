/- Texts of this claim, joined: Open4, Open5. -/
import Derived.Test.YtelhpdnclmpgoaaDoorQeW
import Derived.Test.YtelhpdnclmpgoaaDoorOpenP
import Derived.Test.YtelhpdnclmpgoaaDoorRows
import Derived.Test.YtelhpdnclmpgoaaDoorSaP
/- Data that came in, opened whole, where its bulk is bounded: queues. -/
namespace Go.Proofs.YtelhpdnclmpgoaaDoor
open Go Go.RowKit
open Go.ChangeShapes Go.WideShapes Go.Deep
set_option linter.unusedSimpArgs false
set_option linter.unusedVariables false

theorem bulk_one {H : Type} (d : DataW H) : 1 ≤ Rows.uptoBulk d := by
  cases d with
  | lit l => cases l <;> simp [Rows.uptoBulk]
  | nil => simp [Rows.uptoBulk]
  | ptr d => simp [Rows.uptoBulk]
  | slice elems spare => simp [Rows.uptoBulk]
  | agg parts => simp [Rows.uptoBulk]
  | iface t d => simp [Rows.uptoBulk]
  | map entries => simp [Rows.uptoBulk]
  | held h => simp [Rows.uptoBulk]
theorem bulk_part {H : Type} {d : DataW H} {l : List (DataW H)} (h : d ∈ l) : Rows.uptoBulk d ≤ Rows.uptoBulkAll l := by
  induction l with
  | nil => cases h
  | cons x r ih =>
    simp only [Rows.uptoBulkAll]
    cases List.mem_cons.1 h with
    | inl e => subst e; omega
    | inr e => have := ih e; omega
theorem bulk_length {H : Type} (l : List (DataW H)) : l.length ≤ Rows.uptoBulkAll l := by
  induction l with
  | nil => simp [Rows.uptoBulkAll]
  | cons x r ih => have := bulk_one x; simp only [Rows.uptoBulkAll, List.length_cons]; omega
theorem bulk_append {H : Type} (l r : List (DataW H)) : Rows.uptoBulkAll (l ++ r) = Rows.uptoBulkAll l + Rows.uptoBulkAll r := by
  induction l with
  | nil => simp [Rows.uptoBulkAll]
  | cons x l ih => simp only [List.cons_append, Rows.uptoBulkAll, ih]; omega
theorem bulk_of_small {H : Type} {l r : List (DataW H)} (hk : Rows.uptoSmall H (l ++ r) = true) {d : DataW H} (h : d ∈ l) : Rows.uptoBulk d ≤ 1048576 := by
  have h1 : Rows.uptoBulkAll (l ++ r) ≤ 1048576 := of_decide_eq_true hk
  rw [bulk_append] at h1
  have := bulk_part h
  omega

section
variable {H : Type} (enc : TypeId × Value → H) (P : Program) (W : World)
def OpnB (t : TypeId) (s : Nat) {X : Type} (f : X → List Value) (Good : X → Prop) : Prop :=
  P.cellsOf t = s ∧ (∀ x, (f x).length = s) ∧ ∀ (n : Nat) (cs : List Value) (y : DataW H × List MemPlace), DataW.trod enc P W 0 (fun _ => true) true n t cs = some y → cs.length = s → (DataW.weights P t y.1).all (· ≤ reachBytes) = true → Rows.uptoBulk y.1 ≤ 1048576 → ∃ x, cs = f x ∧ Good x
def OpnFB (fs : List Field) (off sz : Nat) {X : Type} (f : X → List Value) (Good : X → Prop) : Prop :=
  (∀ x, (f x).length = sz) ∧ ∀ (n : Nat) (cs : List Value) (ys : List (DataW H × List MemPlace)), ys.length = fs.length → (∀ (i : Nat) (fl : Field), fs[i]? = some fl → DataW.trod enc P W 0 (fun _ => true) true n fl.type ((cs.drop fl.offset).take (P.cellsOf fl.type)) = ys[i]?) → cs.length = off + sz →
    (DataW.weightsEach P (fs.map (·.type)) (ys.map (·.1))).all (· ≤ reachBytes) = true → Rows.uptoBulkAll (ys.map (·.1)) ≤ 1048576 → ∃ x, cs.drop off = f x ∧ Good x
end

section
variable {H : Type} {enc : TypeId × Value → H} {P : Program} {W : World}
theorem Opn.toB {t : TypeId} {s : Nat} {X : Type} {f : X → List Value} {Good : X → Prop} (h : Opn enc P W t s f Good) : OpnB enc P W t s f Good :=
  ⟨h.1, h.2.1, fun n cs y hy hc hw _ => h.2.2 n cs y hy hc hw⟩
theorem OpnB.conv {t : TypeId} {s : Nat} {X Y : Type} {f : X → List Value} {Good : X → Prop} (h : OpnB enc P W t s f Good) (f' : Y → List Value) (Good' : Y → Prop) (hl : ∀ y, (f' y).length = s) (hg : ∀ x, Good x → ∃ y, f x = f' y ∧ Good' y) : OpnB enc P W t s f' Good' :=
  ⟨h.1, hl, fun n cs y hy hc hw hb => by
    obtain ⟨x, h1, h2⟩ := h.2.2 n cs y hy hc hw hb
    obtain ⟨z, h3, h4⟩ := hg x h2
    exact ⟨z, by rw [h1, h3], h4⟩⟩
theorem opnFB_nil (off : Nat) : OpnFB enc P W [] off 0 (fun _ : Unit => []) (fun _ => True) :=
  ⟨fun _ => rfl, fun n cs ys _ _ hc _ _ => ⟨(), List.drop_eq_nil_of_le (by omega), trivial⟩⟩
theorem opnFB_cons {fl : Field} {fs : List Field} {off s sz : Nat} {X Y : Type} {f : X → List Value} {g : Y → List Value} {Good : X → Prop} {Good' : Y → Prop} (h : OpnB enc P W fl.type s f Good) (ho : fl.offset = off) (hr : OpnFB enc P W fs (off + s) sz g Good') :
    OpnFB enc P W (fl :: fs) off (s + sz) (fun p : X × Y => f p.1 ++ g p.2) (fun p => Good p.1 ∧ Good' p.2) := by
  refine ⟨fun p => by rw [List.length_append, h.2.1, hr.1], fun n cs ys hl hf hc hw hb => ?_⟩
  match ys, hl with
  | y :: ys, hl =>
    simp only [List.map_cons, DataW.weightsEach, List.all_append, Bool.and_eq_true] at hw
    simp only [List.map_cons, Rows.uptoBulkAll] at hb
    have h0 := hf 0 fl rfl
    simp only [List.getElem?_cons_zero] at h0
    rw [h.1, ho] at h0
    obtain ⟨x, hx, gx⟩ := h.2.2 n _ y h0 (by rw [List.length_take, List.length_drop]; omega) hw.1 (by omega)
    obtain ⟨z, hz, gz⟩ := hr.2 n cs ys (by simpa using hl) (fun i fl' hi => by have := hf (i + 1) fl' (by simpa using hi); simpa using this) (by omega) hw.2 (by omega)
    exact ⟨(x, z), by show _ = f x ++ g z; rw [← hx, ← hz, ← List.drop_drop, List.take_append_drop], gx, gz⟩
theorem opn_structB {t : TypeId} {fs : Array Field} {sz : Nat} {X : Type} {f : X → List Value} {Good : X → Prop} (hs : P.underlying t = some (.struct fs)) (hc : P.cellsOf t = sz) (h : OpnFB enc P W fs.toList 0 sz f Good) : OpnB enc P W t sz f Good := by
  refine ⟨hc, h.1, fun n cs y hy hl hw hb => ?_⟩
  obtain ⟨xs, n', _, rfl, _, hlen, hf⟩ := DataW.trod_struct hs hy
  have hw' : (DataW.weightsEach P (fs.toList.map (·.type)) (xs.map (·.1))).all (· ≤ reachBytes) = true := by
    simpa only [DataW.weights, hs] using hw
  have hb' : Rows.uptoBulkAll (xs.map (·.1)) ≤ 1048576 := by simp only [Rows.uptoBulk] at hb; omega
  obtain ⟨x, hx, gx⟩ := h.2 n' cs xs (by rw [Array.length_toList]; exact hlen) (fun i fl hi => hf i fl (by simpa using hi)) (by omega) hw' hb'
  exact ⟨x, by simpa using hx, gx⟩
theorem opn_stringB {t : TypeId} (hu : P.underlying t = some .string) (hc : P.cellsOf t = 1) : OpnB enc P W t 1 (fun s : ByteArray => [.string s]) (fun s => s.size ≤ 1048576) :=
  ⟨hc, fun _ => rfl, fun n cs y hy _ hw hb => by
    obtain ⟨z, h1, rfl, _⟩ := DataW.trod_string hu hy
    refine ⟨z, h1, ?_⟩
    simp only [Rows.uptoBulk, Array.length_toList] at hb
    have h : z.data.size + 1 ≤ 1048576 := hb
    show z.data.size ≤ _
    omega⟩
/-- v reads as the row xs of good elements, not too many. -/
def RowB (W : World) (s : Nat) {X : Type} (f : X → List Value) (Good : X → Prop) (v : Value) : Prop :=
  ∃ xs : List X, RC W v xs.length s (xs.flatMap f) ∧ (∀ x ∈ xs, Good x) ∧ xs.length ≤ 1048576
theorem opn_sliceB {t e : TypeId} {s : Nat} {X : Type} {f : X → List Value} {Good : X → Prop} (hs : 0 < s) (hu : P.underlying t = some (.slice e)) (hct : P.cellsOf t = 1) (he : OpnB enc P W e s f Good) :
    OpnB enc P W t 1 (fun v : Value => [v]) (RowB W s f Good) := by
  obtain ⟨hc, hf, hel⟩ := he
  refine ⟨hct, fun _ => rfl, fun fuel cs y hy hl hw hb => ?_⟩
  rcases open_slice hu hy with ⟨hcs, _⟩ | ⟨a, len, cap, m, n, D, Pl, hcs, _, hlen', hm, hmm, hx, hi⟩
  · refine ⟨_, hcs, [], ⟨none, 0, rfl, Nat.le_refl _, by omega, by simp, fun _ => rfl, fun j u hu => ?_⟩, fun n hn => absurd hn (by simp), by simp⟩
    simp at hu
  · simp only [if_true] at hmm
    subst hmm
    subst hx
    refine ⟨_, hcs, ?_⟩
    simp only [DataW.weights, hu, List.all_cons, List.all_append, Bool.and_eq_true, decide_eq_true_eq] at hw
    obtain ⟨hw0, hw1, _⟩ := hw
    simp only [Rows.uptoBulk] at hb
    have key : ∀ i : Fin len, ∃ y, W.cells? 0 (a.add (i.1 * s)) s = some (f y) ∧ Good y := by
      intro i
      obtain ⟨cs', h1, h2⟩ := hi i.1 (by omega)
      rw [hc] at h1
      obtain ⟨y, rfl, hg⟩ := hel n cs' _ h2 (World.cells?_some h1).2.1 (List.all_eq_true.2 fun k hk => List.all_eq_true.1 hw1 k (weightsAll_mem (List.mem_map.2 ⟨i.1, List.mem_range.2 i.2, rfl⟩) k hk)) (Nat.le_trans (bulk_part (List.mem_map.2 ⟨i.1, List.mem_range.2 i.2, rfl⟩)) (by omega))
      exact ⟨y, h1, hg⟩
    have hlen : (List.ofFn fun i : Fin len => Classical.choose (key i)).length = len := by simp
    refine ⟨List.ofFn fun i : Fin len => Classical.choose (key i), ?_, ?_, ?_⟩
    · rw [hlen]
      refine ⟨some a, _, rfl, hlen', by simpa [maxLen] using hm, by rw [flat_len f s hf, hlen], (fun h => by cases h), fun q u hq => ⟨a, rfl, ?_⟩⟩
      rw [flat_get f s hs hf] at hq
      obtain ⟨y, hy, hq⟩ := Option.bind_eq_some_iff.1 hq
      have hql : q / s < len := by
        have := (List.getElem?_eq_some_iff.1 hy).1
        rwa [hlen] at this
      have hye : y = Classical.choose (key ⟨q / s, hql⟩) := by
        rw [List.getElem?_ofFn] at hy
        simp only [hql, dite_true, Option.some.injEq] at hy
        exact hy.symm
      have hk := (Classical.choose_spec (key ⟨q / s, hql⟩)).1
      rw [← hye] at hk
      have := (World.cells?_some hk).2.2 (q % s) (Nat.mod_lt _ hs)
      rw [add_add] at this
      rw [Nat.div_add_mod' q s] at this
      rw [this]
      exact hq
    · intro y hy
      rw [List.mem_ofFn] at hy
      obtain ⟨i, rfl⟩ := hy
      exact (Classical.choose_spec (key i)).2
    · rw [hlen]
      have h1 := bulk_length (List.map D (List.range len))
      simp only [List.length_map, List.length_range] at h1
      omega
/-- A parameter that is a struct, by value. -/
theorem open_aggB {t : TypeId} {fs : Array Field} {s base : Nat} {X : Type} {f : X → List Value} {Good : X → Prop} {v : Value} {d : DataW H} {p : List MemPlace} {ts : List TypeId} {ds : List (DataW H)} (hO : OpnB enc P W t s f Good) (hs : P.underlying t = some (.struct fs)) (hv : Value.okWide P W .any base t v)
    (h : DataW.Trod enc P W 0 (fun _ => true) true t v d p) (hsz : (DataW.weightsEach P ts ds).all (· ≤ reachBytes) = true) (j : Nat) (ht : ts[j]? = some t) (hd : ds[j]? = some d) (hb : Rows.uptoBulk d ≤ 1048576) : ∃ x, v = .agg (f x).toArray ∧ Good x := by
  obtain ⟨cs, rfl, hz⟩ := okWide_struct hs hv
  obtain ⟨fuel, hf⟩ := h
  obtain ⟨x, hx, hg⟩ := hO.2.2 fuel _ _ hf (by rw [hO.1] at hz; simpa [Value.cells] using hz) (List.all_eq_true.2 fun k hk => List.all_eq_true.1 hsz k (DataW.weights_mem_each ht hd k hk)) hb
  refine ⟨x, ?_, hg⟩
  rw [← hx]
  simp [Value.cells]
end

section
variable {H : Type} {enc : TypeId × Value → H} {W : World}
theorem opn_i64B {t : TypeId} (hu : Tryd.prog.underlying t = some (.int .i64)) (hc : Tryd.prog.cellsOf t = 1) : OpnB enc Tryd.prog W t 1 (fun n : Int => [.int .i64 n]) (fun n => -9223372036854775808 ≤ n ∧ n ≤ 9223372036854775807) := (opn_i64 hu hc).toB
theorem opn_boolB {t : TypeId} (hu : Tryd.prog.underlying t = some .bool) (hc : Tryd.prog.cellsOf t = 1) : OpnB enc Tryd.prog W t 1 (fun b : Bool => [.bool b]) (fun _ => True) := (opn_bool hu hc).toB
theorem opn_msgB : OpnB enc Tryd.prog W 28 5 (fun x : ItR => x.mcells) (fun x => x.ok W ∧ x.it.m.fit) :=
  (opn_structB Tryd.underlying28 (by kernel_rfl) (opnFB_cons (opn_stringB Tryd.underlying9 (by kernel_rfl)) rfl (opnFB_cons (opn_stringB Tryd.underlying9 (by kernel_rfl)) rfl
    (opnFB_cons (opn_sliceB (by omega) Tryd.underlying26 (by kernel_rfl) opn_prop.toB) rfl (opnFB_cons (opn_boolB Tryd.underlying4 (by kernel_rfl)) rfl (opnFB_cons (opn_i64B Tryd.underlying3 (by kernel_rfl)) rfl (opnFB_nil _))))))).conv _ _ (fun _ => rfl) (fun x hx => by
      obtain ⟨top, body, v, du, un, u⟩ := x
      obtain ⟨h1, h2, ⟨ps, hr, hg, hl⟩, -, h5, -⟩ := hx
      obtain ⟨A, c, rfl⟩ := rc_any' hr
      exact ⟨⟨⟨0, false, ⟨top, body, ps, du, un⟩⟩, A, c⟩, rfl, hr, h1, h2, hl, h5, hg⟩)
theorem opn_itemB : OpnB enc Tryd.prog W 44 7 ItR.cells (fun x => x.ok W ∧ x.it.m.fit) :=
  (opn_structB Tryd.underlying44 (by kernel_rfl) (opnFB_cons (opn_i64B Tryd.underlying3 (by kernel_rfl)) rfl (opnFB_cons (opn_boolB Tryd.underlying4 (by kernel_rfl)) rfl (opnFB_cons opn_msgB rfl (opnFB_nil _))))).conv _ _ (fun _ => rfl) (fun x hx => by
      obtain ⟨sq, ag, m, u⟩ := x
      exact ⟨⟨⟨sq, ag, m.it.m⟩, m.pa, m.pc⟩, rfl, hx.2.2.1.1, hx.2.2.1.2⟩)
theorem opn_heldB : OpnB enc Tryd.prog W 46 10 HlR.cells (fun x => x.r.ok W ∧ x.r.it.m.fit) :=
  (opn_structB Tryd.underlying46 (by kernel_rfl) (opnFB_cons (opn_i64B Tryd.underlying3 (by kernel_rfl)) rfl (opnFB_cons (opn_i64B Tryd.underlying3 (by kernel_rfl)) rfl (opnFB_cons (opn_i64B Tryd.underlying3 (by kernel_rfl)) rfl (opnFB_cons opn_itemB rfl (opnFB_nil _)))))).conv _ _ (fun _ => rfl) (fun x hx => by
      obtain ⟨tg, cn, sb, m, u⟩ := x
      exact ⟨⟨tg, cn, sb, m⟩, by show _ ++ (_ ++ (_ ++ (ItR.cells m ++ []))) = _; rfl, hx.2.2.2.1.1, hx.2.2.2.1.2⟩)
set_option maxRecDepth 100000 in
/-- A queue that came in, of bounded bulk. -/
theorem open_queue {v : Value} {base : Nat} {d : DataW H} {p : List MemPlace} {ts : List TypeId} {ds : List (DataW H)} (hv : Value.okWide Tryd.prog W .any base 25 v) (h : DataW.Trod enc Tryd.prog W 0 (fun _ => true) true 25 v d p)
    (hsz : (DataW.weightsEach Tryd.prog ts ds).all (· ≤ reachBytes) = true) (j : Nat) (ht : ts[j]? = some 25) (hd : ds[j]? = some d) (hb : Rows.uptoBulk d ≤ 1048576) :
    ∃ (q : Que) (r : QuR), v = .agg #[.string q.name, .bool q.dur, .int .i64 q.depth, .int .i64 q.seq, .int .i64 q.tag, .slice r.ia r.is.length r.ic, .slice r.ha r.hs.length r.hc] ∧ QuIn W q r ∧ q.fit := by
  have hO : OpnB enc Tryd.prog W 25 7 _ _ := opn_structB Tryd.underlying25 (by kernel_rfl) (opnFB_cons (opn_stringB Tryd.underlying9 (by kernel_rfl)) rfl (opnFB_cons (opn_boolB Tryd.underlying4 (by kernel_rfl)) rfl
    (opnFB_cons (opn_i64B Tryd.underlying3 (by kernel_rfl)) rfl (opnFB_cons (opn_i64B Tryd.underlying3 (by kernel_rfl)) rfl (opnFB_cons (opn_i64B Tryd.underlying3 (by kernel_rfl)) rfl
    (opnFB_cons (opn_sliceB (by omega) Tryd.underlying22 (by kernel_rfl) opn_itemB) rfl (opnFB_cons (opn_sliceB (by omega) Tryd.underlying23 (by kernel_rfl) opn_heldB) rfl (opnFB_nil _))))))))
  obtain ⟨x, rfl, g1, -, g3, g4, g5, ⟨is, ri, gi, li⟩, ⟨hs, rh, gh, lh⟩, -⟩ := open_aggB hO Tryd.underlying25 hv h hsz j ht hd hb
  obtain ⟨nm, du, dp, sq, tg, vi, vh, u⟩ := x
  dsimp only at ri rh g1
  obtain ⟨ia, ic, rfl⟩ := rc_any' ri
  obtain ⟨ha, hc, rfl⟩ := rc_any' rh
  exact ⟨⟨nm, du, dp, sq, tg, is.map ItR.it, hs.map HlR.pl⟩, ⟨ia, ic, is, ha, hc, hs⟩, rfl, ⟨⟨ri, fun x hx => (gi x hx).1⟩, ⟨rh, fun x hx => (gh x hx).1⟩, rfl, rfl⟩,
    ⟨g1, by rw [List.length_map]; omega, by rw [List.length_map]; omega, fun x hx => by obtain ⟨y, hy, rfl⟩ := List.mem_map.1 hx; exact (gi y hy).2, fun x hx => by obtain ⟨y, hy, rfl⟩ := List.mem_map.1 hx; exact (gh y hy).2⟩⟩
theorem gm_of_shaped {W : World} (h : W.ShapedOpen Tryd.prog) : GM W :=
  cell_of_shapedOpen_int (P := Tryd.prog) (g := 3) (t := 3) (zero := #[.int .i64 0]) h (of_decide_eq_true (by kernel_rfl)) (by kernel_rfl) rfl (by kernel_rfl) (by kernel_rfl) Tryd.underlying3
end
end Go.Proofs.YtelhpdnclmpgoaaDoor

/- Calls that came in, of bounded bulk. -/
namespace Go.Proofs.YtelhpdnclmpgoaaDoor
open Go Go.RowKit
open Go.ChangeShapes Go.WideShapes Go.Deep
set_option linter.unusedSimpArgs false
set_option linter.unusedVariables false

/-- A call as it lies. -/
structure OpR where
  o : OpP
  pa : Option Addr
  pc : Nat
def OpR.cells (x : OpR) : List Value := [.int .i64 x.o.kind, .int .i64 x.o.conn, .int .i64 x.o.n, .bool x.o.flag, .string x.o.m.top, .string x.o.m.body, .slice x.pa x.o.m.ps.length x.pc, .bool x.o.m.dur, .int .i64 x.o.m.unt]
def OpR.ok (W : World) (x : OpR) : Prop := RPr W (.slice x.pa x.o.m.ps.length x.pc) x.o.m.ps ∧ x.o.m.fit
def ROps (w : World) (v : Value) (xs : List OpR) : Prop := RC w v xs.length 9 (xs.flatMap OpR.cells) ∧ ∀ x ∈ xs, x.ok w
theorem ROps.below {w w1 : World} {v : Value} {xs : List OpR} (h : ROps w v xs) (b : Below w.heap.size w w1) : ROps w1 v xs := ⟨rc_below h.1 b, fun x hx => ⟨rc_below (h.2 x hx).1 b, (h.2 x hx).2⟩⟩
theorem ops_lit {w : World} {A : Option Addr} {n c : Nat} {xs : List OpR} (h : ROps w (.slice A n c) xs) : ∀ k x, xs[k]? = some x → x.ok w ∧ ∃ a, A = some a ∧ w.cell? (a.add (k * 9)) = some (.int .i64 x.o.kind) ∧ w.cell? ⟨(a.add (k * 9)).block, (a.add (k * 9)).off + 1, none⟩ = some (.int .i64 x.o.conn) ∧ w.cell? ⟨(a.add (k * 9)).block, (a.add (k * 9)).off + 2, none⟩ = some (.int .i64 x.o.n) ∧ w.cell? ⟨(a.add (k * 9)).block, (a.add (k * 9)).off + 3, none⟩ = some (.bool x.o.flag) ∧ w.cell? ⟨(a.add (k * 9)).block, (a.add (k * 9)).off + 4, none⟩ = some (.string x.o.m.top) ∧ w.cell? ⟨(a.add (k * 9)).block, (a.add (k * 9)).off + 5, none⟩ = some (.string x.o.m.body) ∧ w.cell? ⟨(a.add (k * 9)).block, (a.add (k * 9)).off + 6, none⟩ = some (.slice x.pa x.o.m.ps.length x.pc) ∧ w.cell? ⟨(a.add (k * 9)).block, (a.add (k * 9)).off + 7, none⟩ = some (.bool x.o.m.dur) ∧ w.cell? ⟨(a.add (k * 9)).block, (a.add (k * 9)).off + 8, none⟩ = some (.int .i64 x.o.m.unt) := by
  obtain ⟨A', c', he, h2, h3⟩ := row_at (f := OpR.cells) (by omega) (fun _ => rfl) h.1
  injection he with h4 h5 h6
  subst h4
  intro k x hx
  obtain ⟨a, ha, hc⟩ := h3 k x hx
  exact ⟨h.2 x (List.mem_of_getElem? hx), a, ha, hc 0 _ rfl, by rw [← add_one_of]; exact hc 1 _ rfl, by rw [← add_one_of]; exact hc 2 _ rfl, by rw [← add_one_of]; exact hc 3 _ rfl, by rw [← add_one_of]; exact hc 4 _ rfl, by rw [← add_one_of]; exact hc 5 _ rfl, by rw [← add_one_of]; exact hc 6 _ rfl, by rw [← add_one_of]; exact hc 7 _ rfl, by rw [← add_one_of]; exact hc 8 _ rfl⟩
section
variable {H : Type} {enc : TypeId × Value → H} {W : World}
theorem opn_opB : OpnB enc Tryd.prog W 30 9 OpR.cells (fun x => x.ok W) :=
  (opn_structB Tryd.underlying30 (by kernel_rfl) (opnFB_cons (opn_i64B Tryd.underlying3 (by kernel_rfl)) rfl (opnFB_cons (opn_i64B Tryd.underlying3 (by kernel_rfl)) rfl (opnFB_cons (opn_i64B Tryd.underlying3 (by kernel_rfl)) rfl
    (opnFB_cons (opn_boolB Tryd.underlying4 (by kernel_rfl)) rfl (opnFB_cons opn_msgB rfl (opnFB_nil _))))))).conv _ _ (fun _ => rfl) (fun x hx => by
      obtain ⟨kd, cn, n, fl, m, u⟩ := x
      exact ⟨⟨⟨kd, cn, n, fl, m.it.m⟩, m.pa, m.pc⟩, rfl, hx.2.2.2.2.1.1, hx.2.2.2.2.1.2⟩)
theorem open_slB {P : Program} {t e : TypeId} {s base : Nat} {X : Type} {f : X → List Value} {Good : X → Prop} {v : Value} {d : DataW H} {p : List MemPlace} {ts : List TypeId} {ds : List (DataW H)} (h0 : 0 < s) (hu : P.underlying t = some (.slice e)) (hct : P.cellsOf t = 1) (hO : OpnB enc P W e s f Good) (hv : Value.okWide P W .any base t v)
    (h : DataW.Trod enc P W 0 (fun _ => true) true t v d p) (hsz : (DataW.weightsEach P ts ds).all (· ≤ reachBytes) = true) (j : Nat) (ht : ts[j]? = some t) (hd : ds[j]? = some d) (hb : Rows.uptoBulk d ≤ 1048576) : RowB W s f Good v := by
  obtain ⟨a, len, cap, rfl⟩ := okWide_slice hu hv
  obtain ⟨fuel, hf⟩ := h
  obtain ⟨x, hx, hg⟩ := (opn_sliceB h0 hu hct hO).2.2 fuel _ _ hf (by simp [Value.cells]) (List.all_eq_true.2 fun k hk => List.all_eq_true.1 hsz k (DataW.weights_mem_each ht hd k hk)) hb
  have e1 : Value.slice a len cap = x := by simpa [Value.cells] using hx
  rw [e1]
  exact hg
set_option maxRecDepth 100000 in
theorem open_ops {v : Value} {base : Nat} {d : DataW H} {p : List MemPlace} {ts : List TypeId} {ds : List (DataW H)} (hv : Value.okWide Tryd.prog W .any base 51 v) (h : DataW.Trod enc Tryd.prog W 0 (fun _ => true) true 51 v d p)
    (hsz : (DataW.weightsEach Tryd.prog ts ds).all (· ≤ reachBytes) = true) (j : Nat) (ht : ts[j]? = some 51) (hd : ds[j]? = some d) (hb : Rows.uptoBulk d ≤ 1048576) :
    ∃ (xs : List OpR) (A : Option Addr) (c : Nat), v = .slice A xs.length c ∧ ROps W (.slice A xs.length c) xs ∧ xs.length ≤ 1048576 := by
  obtain ⟨xs, hr, hg, hl⟩ := open_slB (by omega) Tryd.underlying51 (by kernel_rfl) opn_opB hv h hsz j ht hd hb
  obtain ⟨A, c, rfl⟩ := rc_any' hr
  exact ⟨xs, A, c, rfl, ⟨hr, hg⟩, hl⟩
end
end Go.Proofs.YtelhpdnclmpgoaaDoor
