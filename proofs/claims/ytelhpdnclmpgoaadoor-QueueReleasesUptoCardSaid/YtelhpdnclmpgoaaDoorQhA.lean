/- Layer 10: what can be, by its parts; what a release leaves. -/
import Derived.Test.YtelhpdnclmpgoaaDoorQeR
namespace Go.Proofs.YtelhpdnclmpgoaaDoor
open Go Go.RowKit Go.Sort
open Go.ChangeShapes Go.WideShapes Go.Deep
set_option linter.unusedSimpArgs false
set_option linter.unusedVariables false

theorem goodI_iff {sq : Int} : ∀ {xs : List Itm} {l : Int}, goodI sq l xs = true ↔ (∀ x ∈ xs, l < x.seq ∧ x.seq ≤ sq ∧ x.m.good = true) ∧ xs.Pairwise (fun a b => a.seq < b.seq)
  | [], l => ⟨fun _ => ⟨(fun x h => by cases h), List.Pairwise.nil⟩, fun _ => rfl⟩
  | x :: r, l => by
    refine ⟨goodI_all, fun ⟨h1, h2⟩ => ?_⟩
    have hx := h1 x (by simp)
    obtain ⟨p1, p2⟩ := List.pairwise_cons.1 h2
    simp only [goodI, Bool.and_eq_true, decide_eq_true_eq]
    exact ⟨⟨⟨hx.1, hx.2.1⟩, hx.2.2⟩, goodI_iff.2 ⟨fun y hy => ⟨p1 y hy, (h1 y (List.mem_cons_of_mem _ hy)).2⟩, p2⟩⟩
/-- One that is held can be. -/
def hok (sq tg : Int) (h : Hld) : Prop := h.tag ≤ tg ∧ 0 ≤ h.conn ∧ h.conn < 8 ∧ 0 ≤ h.sub ∧ h.sub ≤ 1099511627776 ∧ 1 ≤ h.it.seq ∧ h.it.seq ≤ sq ∧ h.it.m.good = true
def hless (a b : Hld) : Prop := a.tag < b.tag ∧ a.it.seq ≠ b.it.seq
theorem notmem_of {s : List Int} {n : Int} : (!(s.contains n)) = true ↔ n ∉ s := by
  cases h : s.contains n with
  | true => exact ⟨(fun e => by cases e), fun e => absurd (List.contains_iff_mem.1 h) e⟩
  | false => exact ⟨(fun _ e => by rw [List.contains_iff_mem.2 e] at h; cases h), fun _ => rfl⟩
theorem goodH_iff {sq tg : Int} : ∀ {hs : List Hld} {l : Int} {s : List Int}, goodH sq tg l s hs = true ↔ (∀ h ∈ hs, l < h.tag ∧ hok sq tg h ∧ h.it.seq ∉ s) ∧ hs.Pairwise hless
  | [], l, s => ⟨fun _ => ⟨(fun x h => by cases h), List.Pairwise.nil⟩, fun _ => rfl⟩
  | h :: r, l, s => by
    have ih := @goodH_iff sq tg r h.tag (s ++ [h.it.seq])
    simp only [goodH, Bool.and_eq_true, decide_eq_true_eq]
    rw [ih, notmem_of]
    constructor
    · rintro ⟨⟨⟨⟨⟨⟨⟨⟨⟨⟨a1, a2⟩, a3⟩, a4⟩, a5⟩, a6⟩, a7⟩, a8⟩, a9⟩, a10⟩, b1, b2⟩
      refine ⟨fun x hx => ?_, List.pairwise_cons.2 ⟨fun x hx => ⟨(b1 x hx).1, fun e => (b1 x hx).2.2 (List.mem_append_right _ (by simp [e]))⟩, b2⟩⟩
      rcases List.mem_cons.1 hx with rfl | hx
      · exact ⟨a1, ⟨a2, a3, a4, a5, a6, a7, a8, a9⟩, a10⟩
      · have := b1 x hx
        exact ⟨by omega, this.2.1, fun e => this.2.2 (List.mem_append_left _ e)⟩
    · rintro ⟨b1, b2⟩
      obtain ⟨p1, p2⟩ := List.pairwise_cons.1 b2
      obtain ⟨a1, ⟨a2, a3, a4, a5, a6, a7, a8, a9⟩, a10⟩ := b1 h (by simp)
      refine ⟨⟨⟨⟨⟨⟨⟨⟨⟨⟨a1, a2⟩, a3⟩, a4⟩, a5⟩, a6⟩, a7⟩, a8⟩, a9⟩, a10⟩, fun x hx => ⟨(p1 x hx).1, (b1 x (List.mem_cons_of_mem _ hx)).2.1, fun e => ?_⟩, p2⟩
      rcases List.mem_append.1 e with e | e
      · exact (b1 x (List.mem_cons_of_mem _ hx)).2.2 e
      · have e' : x.it.seq = h.it.seq := by simpa using e
        exact (p1 x hx).2 e'.symm
/-- A queue that can be, by its parts. -/
structure Can (q : Que) : Prop where
  nm : nameB q.name = true
  d1 : 1 ≤ q.depth
  d2 : q.depth ≤ 64
  s1 : 0 ≤ q.seq
  s2 : q.seq ≤ 1099511627776
  t1 : 0 ≤ q.tag
  t2 : q.tag ≤ 1099511627776
  len : (q.items.length : Int) + q.held.length ≤ q.depth
  ia : ∀ x ∈ q.items, 0 < x.seq ∧ x.seq ≤ q.seq ∧ x.m.good = true
  ip : q.items.Pairwise (fun a b => a.seq < b.seq)
  ha : ∀ h ∈ q.held, 0 < h.tag ∧ hok q.seq q.tag h ∧ h.it.seq ∉ q.items.map Itm.seq
  hp : q.held.Pairwise hless
theorem can_iff {q : Que} : goodQ q = true ↔ Can q := by
  unfold goodQ headQ
  simp only [Bool.and_eq_true, decide_eq_true_eq]
  rw [goodI_iff, goodH_iff]
  exact ⟨fun ⟨⟨⟨⟨⟨⟨⟨⟨a1, a2⟩, a3⟩, a4⟩, a5⟩, a6⟩, a7⟩, a8⟩, ⟨b1, b2⟩, c1, c2⟩ => ⟨a1, a2, a3, a4, a5, a6, a7, a8, b1, b2, c1, c2⟩,
    fun ⟨a1, a2, a3, a4, a5, a6, a7, a8, b1, b2, c1, c2⟩ => ⟨⟨⟨⟨⟨⟨⟨⟨a1, a2⟩, a3⟩, a4⟩, a5⟩, a6⟩, a7⟩, a8⟩, ⟨b1, b2⟩, c1, c2⟩⟩
theorem mem_insQ {l : List Itm} {y z : Itm} : z ∈ insQ l y ↔ z ∈ l ∨ z = ⟨y.seq, true, y.m⟩ := by
  unfold insQ
  have h : z ∈ l ↔ z ∈ l.takeWhile (fun z => decide (z.seq < y.seq)) ∨ z ∈ l.dropWhile (fun z => decide (z.seq < y.seq)) := by
    rw [← List.mem_append, List.takeWhile_append_dropWhile]
  rw [h]
  simp only [List.mem_append, List.mem_singleton]
  constructor
  · rintro ((h | h) | h)
    · exact .inl (.inl h)
    · exact .inr h
    · exact .inl (.inr h)
  · rintro ((h | h) | h)
    · exact .inl (.inl h)
    · exact .inr h
    · exact .inl (.inr h)
theorem ins_strict {l : List Itm} (h : l.Pairwise (fun a b => a.seq < b.seq)) {y : Itm} (hy : y.seq ∉ l.map Itm.seq) : (insQ l y).Pairwise (fun a b => a.seq < b.seq) := by
  have hr : Rise l := h.imp (fun h => by omega)
  unfold insQ
  have hs : (l.takeWhile (fun z => decide (z.seq < y.seq)) ++ l.dropWhile (fun z => decide (z.seq < y.seq))).Pairwise (fun a b => a.seq < b.seq) := by rw [List.takeWhile_append_dropWhile]; exact h
  obtain ⟨h1, h2, h3⟩ := List.pairwise_append.1 hs
  rw [List.append_assoc, List.pairwise_append]
  refine ⟨h1, List.pairwise_cons.2 ⟨fun z hz => ?_, h2⟩, fun a ha b hb => ?_⟩
  · have hge := hr.drop_ge z hz
    have hm : z ∈ l := by rw [← List.takeWhile_append_dropWhile (p := fun z : Itm => decide (z.seq < y.seq)) (l := l)]; exact List.mem_append_right _ hz
    have hne : z.seq ≠ y.seq := fun e => hy (List.mem_map.2 ⟨z, hm, e⟩)
    show y.seq < z.seq
    omega
  · rcases List.mem_cons.1 hb with rfl | hb
    · exact (mem_takeWhile_lt ha).1
    · exact h3 a ha b hb
theorem rel_fold (cn sb sq tg : Int) : ∀ (hs : List Hld) (I : List Itm) (H : List Hld), (∀ x ∈ I, 0 < x.seq ∧ x.seq ≤ sq ∧ x.m.good = true) → I.Pairwise (fun a b => a.seq < b.seq) → (∀ h ∈ H ++ hs, 0 < h.tag ∧ hok sq tg h ∧ h.it.seq ∉ I.map Itm.seq) → (H ++ hs).Pairwise hless →
    (∀ x ∈ (hs.foldl (relOne cn sb) (I, H)).1, 0 < x.seq ∧ x.seq ≤ sq ∧ x.m.good = true) ∧ (hs.foldl (relOne cn sb) (I, H)).1.Pairwise (fun a b => a.seq < b.seq) ∧ (∀ h ∈ (hs.foldl (relOne cn sb) (I, H)).2, 0 < h.tag ∧ hok sq tg h ∧ h.it.seq ∉ (hs.foldl (relOne cn sb) (I, H)).1.map Itm.seq) ∧ (hs.foldl (relOne cn sb) (I, H)).2.Pairwise hless ∧ (hs.foldl (relOne cn sb) (I, H)).1.length + (hs.foldl (relOne cn sb) (I, H)).2.length = I.length + H.length + hs.length
  | [], I, H, h1, h2, h3, h4 => by
    rw [List.append_nil] at h3 h4
    exact ⟨h1, h2, h3, h4, by simp⟩
  | h :: t, I, H, h1, h2, h3, h4 => by
    rw [List.foldl_cons]
    obtain ⟨p1, p2, p3⟩ := List.pairwise_append.1 h4
    obtain ⟨p4, p5⟩ := List.pairwise_cons.1 p2
    have hh := h3 h (by simp)
    cases hc : (h.conn == cn && (sb == -1 || h.sub == sb)) with
    | true =>
      have e : relOne cn sb (I, H) h = (insQ I h.it, H) := by unfold relOne; rw [if_pos hc]
      rw [e]
      have ih := rel_fold cn sb sq tg t (insQ I h.it) H (fun x hx => by
          rcases mem_insQ.1 hx with hx | rfl
          · exact h1 x hx
          · exact ⟨by have := hh.2.1.2.2.2.2.2.1; show 0 < h.it.seq; omega, hh.2.1.2.2.2.2.2.2.1, hh.2.1.2.2.2.2.2.2.2⟩)
        (ins_strict h2 hh.2.2) (fun x hx => by
          have hx' : x ∈ H ++ h :: t := by rcases List.mem_append.1 hx with hx | hx; exact List.mem_append_left _ hx; exact List.mem_append_right _ (List.mem_cons_of_mem _ hx)
          have hx2 := h3 x hx'
          refine ⟨hx2.1, hx2.2.1, fun e => ?_⟩
          obtain ⟨z, hz, he⟩ := List.mem_map.1 e
          rcases mem_insQ.1 hz with hz | rfl
          · exact hx2.2.2 (List.mem_map.2 ⟨z, hz, he⟩)
          · have he' : h.it.seq = x.it.seq := he
            rcases List.mem_append.1 hx with hx | hx
            · exact (p3 x hx h (by simp)).2 he'.symm
            · exact (p4 x hx).2 he')
        (h4.sublist (by simp))
      refine ⟨ih.1, ih.2.1, ih.2.2.1, ih.2.2.2.1, ?_⟩
      rw [ih.2.2.2.2, insQ_len, List.length_cons]
      omega
    | false =>
      have e : relOne cn sb (I, H) h = (I, H ++ [h]) := by unfold relOne; rw [if_neg (by rw [hc]; decide)]
      rw [e]
      have ea : H ++ [h] ++ t = H ++ h :: t := by simp
      have ih := rel_fold cn sb sq tg t I (H ++ [h]) h1 h2 (by rw [ea]; exact h3) (by rw [ea]; exact h4)
      refine ⟨ih.1, ih.2.1, ih.2.2.1, ih.2.2.2.1, ?_⟩
      rw [ih.2.2.2.2, List.length_append, List.length_singleton, List.length_cons]
      omega
def relP (q : Que) (cn sb : Int) : Que := ⟨q.name, q.dur, q.depth, q.seq, q.tag, (q.held.foldl (relOne cn sb) (q.items, [])).1, (q.held.foldl (relOne cn sb) (q.items, [])).2⟩
theorem goodQ_rel {q : Que} (h : goodQ q = true) (cn sb : Int) : goodQ (relP q cn sb) = true ∧ (relP q cn sb).items.length + (relP q cn sb).held.length = q.items.length + q.held.length := by
  have hC := can_iff.1 h
  have hr := rel_fold cn sb q.seq q.tag q.held q.items [] hC.ia hC.ip (by simpa using hC.ha) (by simpa using hC.hp)
  have hl : (relP q cn sb).items.length + (relP q cn sb).held.length = q.items.length + q.held.length := by have := hr.2.2.2.2; rw [List.length_nil, Nat.add_zero] at this; exact this
  refine ⟨can_iff.2 ⟨hC.nm, hC.d1, hC.d2, hC.s1, hC.s2, hC.t1, hC.t2, ?_, hr.1, hr.2.1, hr.2.2.1, hr.2.2.2.1⟩, hl⟩
  have := hC.len
  show ((relP q cn sb).items.length : Int) + (relP q cn sb).held.length ≤ q.depth
  omega
theorem rel_held (cn : Int) : ∀ (hs : List Hld) (I : List Itm) (H : List Hld), (hs.foldl (relOne cn (-1)) (I, H)).2 = H ++ hs.filter (fun h => !(h.conn == cn))
  | [], I, H => by simp
  | h :: t, I, H => by
    rw [List.foldl_cons]
    cases hc : (h.conn == cn) with
    | true =>
      have e : relOne cn (-1) (I, H) h = (insQ I h.it, H) := by unfold relOne; rw [if_pos (by rw [hc]; rfl)]
      rw [e, rel_held cn t, List.filter_cons_of_neg (by rw [hc]; decide)]
    | false =>
      have e : relOne cn (-1) (I, H) h = (I, H ++ [h]) := by unfold relOne; rw [if_neg (by rw [hc, Bool.false_and]; decide)]
      rw [e, rel_held cn t, List.filter_cons_of_pos (by rw [hc]; rfl)]
      simp
theorem rel_none (cn : Int) : ∀ (hs : List Hld) (I : List Itm) (H : List Hld), (∀ h ∈ hs, (h.conn == cn) = false) → hs.foldl (relOne cn (-1)) (I, H) = (I, H ++ hs)
  | [], I, H, _ => by simp
  | h :: t, I, H, hn => by
    have e : relOne cn (-1) (I, H) h = (I, H ++ [h]) := by unfold relOne; rw [if_neg (by rw [hn h (by simp), Bool.false_and]; decide)]
    rw [List.foldl_cons, e, rel_none cn t I (H ++ [h]) (fun x hx => hn x (List.mem_cons_of_mem _ hx))]
    simp
theorem rel_idem (q : Que) (cn : Int) : relP (relP q cn (-1)) cn (-1) = relP q cn (-1) := by
  have h1 : (relP q cn (-1)).held = q.held.filter (fun h => !(h.conn == cn)) := by show (q.held.foldl (relOne cn (-1)) (q.items, [])).2 = _; rw [rel_held]; simp
  have h2 := rel_none cn (relP q cn (-1)).held (relP q cn (-1)).items [] (fun h hh => by
    rw [h1] at hh
    have := (List.mem_filter.1 hh).2
    cases hc : (h.conn == cn) with
    | true => rw [hc] at this; exact absurd this (by decide)
    | false => rfl)
  unfold relP at h2 ⊢
  rw [h2]
  simp
theorem rel_mem (cn : Int) : ∀ (hs : List Hld) (I : List Itm) (H : List Hld), (∀ z ∈ I, z ∈ (hs.foldl (relOne cn (-1)) (I, H)).1) ∧ (∀ h ∈ hs, (h.conn == cn) = true → (⟨h.it.seq, true, h.it.m⟩ : Itm) ∈ (hs.foldl (relOne cn (-1)) (I, H)).1)
  | [], I, H => ⟨fun z hz => hz, fun h hh => by cases hh⟩
  | h :: t, I, H => by
    rw [List.foldl_cons]
    cases hc : (h.conn == cn) with
    | true =>
      have e : relOne cn (-1) (I, H) h = (insQ I h.it, H) := by unfold relOne; rw [if_pos (by rw [hc]; rfl)]
      rw [e]
      have ih := rel_mem cn t (insQ I h.it) H
      refine ⟨fun z hz => ih.1 z (mem_insQ.2 (.inl hz)), fun x hx hx2 => ?_⟩
      rcases List.mem_cons.1 hx with rfl | hx
      · exact ih.1 _ (mem_insQ.2 (.inr rfl))
      · exact ih.2 x hx hx2
    | false =>
      have e : relOne cn (-1) (I, H) h = (I, H ++ [h]) := by unfold relOne; rw [if_neg (by rw [hc, Bool.false_and]; decide)]
      rw [e]
      have ih := rel_mem cn t I (H ++ [h])
      refine ⟨ih.1, fun x hx hx2 => ?_⟩
      rcases List.mem_cons.1 hx with rfl | hx
      · rw [hc] at hx2; cases hx2
      · exact ih.2 x hx hx2
theorem fold_fit (cn sb : Int) : ∀ (hs : List Hld) (I : List Itm) (H : List Hld), (∀ x ∈ I, x.m.fit) → (∀ h ∈ H ++ hs, h.it.m.fit) → (∀ x ∈ (hs.foldl (relOne cn sb) (I, H)).1, x.m.fit) ∧ (∀ h ∈ (hs.foldl (relOne cn sb) (I, H)).2, h.it.m.fit)
  | [], I, H, h1, h2 => ⟨h1, by rw [List.append_nil] at h2; exact h2⟩
  | h :: t, I, H, h1, h2 => by
    rw [List.foldl_cons]
    cases hc : (h.conn == cn && (sb == -1 || h.sub == sb)) with
    | true =>
      have e : relOne cn sb (I, H) h = (insQ I h.it, H) := by unfold relOne; rw [if_pos hc]
      rw [e]
      refine fold_fit cn sb t _ _ (fun x hx => ?_) (fun x hx => ?_)
      · rcases mem_insQ.1 hx with hx | rfl
        · exact h1 x hx
        · exact h2 h (by simp)
      · rcases List.mem_append.1 hx with hx | hx
        · exact h2 x (List.mem_append_left _ hx)
        · exact h2 x (List.mem_append_right _ (List.mem_cons_of_mem _ hx))
    | false =>
      have e : relOne cn sb (I, H) h = (I, H ++ [h]) := by unfold relOne; rw [if_neg (by rw [hc]; decide)]
      rw [e]
      exact fold_fit cn sb t _ _ h1 (fun x hx => h2 x (by simpa using hx))
theorem rel_fit {q : Que} (h : q.fit) (hg : goodQ q = true) (cn sb : Int) : (relP q cn sb).fit := by
  have hf := fold_fit cn sb q.held q.items [] h.im (by simpa using h.hm)
  have hl := (goodQ_rel hg cn sb).2
  have h64 := goodQ_len hg
  exact ⟨h.name, by omega, by omega, hf.1, hf.2⟩
theorem relR_eq {q : Que} (h : goodQ q = true) (cn sb : Int) : releaseR q cn sb = (relP q cn sb, 0) := by unfold releaseR; rw [if_pos h]; rfl
theorem rel_step {w : World} (q : Que) (r : QuR) (cn sb : Int) (hq : QuIn w q r) (hf : q.fit) (hg : GM w) (hgd : goodQ q = true) :
    Calls Tryd.prog 21 #[.agg #[.string q.name, .bool q.dur, .int .i64 q.depth, .int .i64 q.seq, .int .i64 q.tag, .slice r.ia r.is.length r.ic, .slice r.ha r.hs.length r.hc], .int .i64 cn, .int .i64 sb] w fun e w' => ∃ r' : QuR, e = .returned (.tuple #[.agg #[.string (relP q cn sb).name, .bool (relP q cn sb).dur, .int .i64 (relP q cn sb).depth, .int .i64 (relP q cn sb).seq, .int .i64 (relP q cn sb).tag, .slice r'.ia r'.is.length r'.ic, .slice r'.ha r'.hs.length r'.hc], .int .i64 0]) ∧ QuIn w' (relP q cn sb) r' ∧ Below w.heap.size w w' := by
  have h := release_c q r cn sb hq hf hg
  rw [relR_eq hgd] at h
  exact h.mono fun e w' ⟨r', h1, h2, h3⟩ => ⟨r', h1, h2.qin, h3⟩
end Go.Proofs.YtelhpdnclmpgoaaDoor
