/- Texts of this claim, joined: QgA, QhA, QhB. -/
import Derived.Test.YtelhpdnclmpgoaaDoorQeZ
import Derived.Test.YtelhpdnclmpgoaaDoorQeR
import Derived.Test.YtelhpdnclmpgoaaDoorQeU
import Derived.Test.YtelhpdnclmpgoaaDoorQeC
/- Layer 10: what an expiring leaves. (Printed by gen/qge.py.) -/
namespace Go.Proofs.YtelhpdnclmpgoaaDoor
open Go Go.RowKit Go.Sort
open Go.ChangeShapes Go.WideShapes Go.Deep
set_option linter.unusedSimpArgs false
set_option linter.unusedVariables false

def expP (q : Que) (now : Int) : Que := ⟨q.name, q.dur, q.depth, q.seq, q.tag, q.items.filter (fun x => !gone now x), q.held⟩
theorem goodI_filter {sq : Int} (p : Itm → Bool) : ∀ {xs : List Itm} {l l' : Int}, l' ≤ l → goodI sq l xs = true → goodI sq l' (xs.filter p) = true
  | [], l, l', _, _ => rfl
  | x :: r, l, l', hl, h => by
    simp only [goodI, Bool.and_eq_true, decide_eq_true_eq] at h
    obtain ⟨⟨⟨h1, h2⟩, h3⟩, h4⟩ := h
    cases hp : p x with
    | true =>
      rw [List.filter_cons_of_pos hp]
      simp only [goodI, Bool.and_eq_true, decide_eq_true_eq]
      exact ⟨⟨⟨by omega, h2⟩, h3⟩, goodI_filter p (Int.le_refl _) h4⟩
    | false =>
      rw [List.filter_cons_of_neg (by rw [hp]; decide)]
      exact goodI_filter p (by omega) h4
theorem goodH_sub {sq tg : Int} : ∀ {hs : List Hld} {l : Int} {s s' : List Int}, (∀ n, n ∈ s' → n ∈ s) → goodH sq tg l s hs = true → goodH sq tg l s' hs = true
  | [], l, s, s', _, _ => rfl
  | h :: r, l, s, s', hs, hg => by
    simp only [goodH, Bool.and_eq_true] at hg ⊢
    obtain ⟨⟨h1, h2⟩, h3⟩ := hg
    refine ⟨⟨h1, ?_⟩, goodH_sub (fun n hn => ?_) h3⟩
    · cases hc : s'.contains h.it.seq with
      | false => rfl
      | true =>
        have := hs _ (List.contains_iff_mem.1 hc)
        rw [List.contains_iff_mem.2 this] at h2
        exact absurd h2 (by decide)
    · rcases List.mem_append.1 hn with hn | hn
      · exact List.mem_append_left _ (hs n hn)
      · exact List.mem_append_right _ hn
theorem goodQ_exp {q : Que} (h : goodQ q = true) (now : Int) : goodQ (expP q now) = true := by
  unfold goodQ headQ at h ⊢
  simp only [Bool.and_eq_true, decide_eq_true_eq] at h ⊢
  obtain ⟨⟨h1, h2⟩, h3, h4⟩ := h
  refine ⟨⟨h1, ?_⟩, goodI_filter _ (Int.le_refl _) h3, goodH_sub (fun n hn => ?_) h4⟩
  · have : (expP q now).items.length ≤ q.items.length := List.length_filter_le _ _
    show ((expP q now).items.length : Int) + q.held.length ≤ q.depth
    omega
  · obtain ⟨x, hx, rfl⟩ := List.mem_map.1 hn
    exact List.mem_map.2 ⟨x, (List.mem_filter.1 hx).1, rfl⟩
theorem expR_eq {q : Que} (h : goodQ q = true) (now : Int) : expireR q now = (expP q now, 0) := by unfold expireR; rw [if_pos h]; rfl
theorem exp_exp {q : Que} {now later : Int} (h : now ≤ later) : expP (expP q now) later = expP q later := by
  unfold expP
  simp only [List.filter_filter]
  congr 1
  refine List.filter_congr (fun x _ => ?_)
  unfold gone
  by_cases h1 : 0 < x.m.unt
  · by_cases h2 : x.m.unt ≤ later
    · simp [h1, h2]
    · have h3 : ¬ x.m.unt ≤ now := by omega
      simp [h1, h2, h3]
  · simp [h1]
theorem exp_fit {q : Que} (h : q.fit) (now : Int) : (expP q now).fit :=
  ⟨h.name, Nat.le_trans (List.length_filter_le _ _) h.il, h.hl, fun x hx => h.im x (List.mem_filter.1 hx).1, h.hm⟩
/-- Doesn't end, or later. -/
def stayP (now : Int) (x : Itm) : Bool := x.m.unt == 0 || decide (now < x.m.unt)
theorem stay_gone {now : Int} {x : Itm} (h : 0 ≤ x.m.unt) : (!gone now x) = stayP now x := by
  unfold gone stayP
  by_cases h1 : 0 < x.m.unt
  · have e : (x.m.unt == 0) = false := by rw [beq_eq_false_iff_ne]; omega
    by_cases h2 : x.m.unt ≤ now
    · have h3 : ¬ now < x.m.unt := by omega
      simp [h1, h2, e, h3]
    · have h3 : now < x.m.unt := by omega
      simp [h1, h2, e, h3]
  · have h0 : x.m.unt = 0 := by omega
    simp [h0]
theorem good_unt {q : Que} (h : goodQ q = true) : ∀ x ∈ q.items, 0 ≤ x.m.unt := fun x hx => by
  unfold goodQ at h
  simp only [Bool.and_eq_true] at h
  have := ((goodI_all h.2.1).1 x hx).2.2
  unfold Msg.good at this
  simp only [Bool.and_eq_true, decide_eq_true_eq] at this
  exact this.1.2
theorem exp_stay {q : Que} (h : goodQ q = true) (now : Int) : (expP q now).items = q.items.filter (stayP now) :=
  List.filter_congr (fun x hx => stay_gone (good_unt h x hx))
theorem cnt_step {l : List Itm} {p : Itm → Bool} {k : Nat} {x : Itm} (hx : l[k]? = some x) : ((l.take (k + 1)).filter p).length = ((l.take k).filter p).length + (if p x = true then 1 else 0) := by
  rw [List.take_add_one, hx, List.filter_append, List.length_append]
  congr 1
  cases hp : p x <;> simp [hp]
theorem exp_step {w : World} (q : Que) (r : QuR) (now : Int) (hq : QuIn w q r) (hf : q.fit) (hg : GM w) (hgd : goodQ q = true) :
    Calls Tryd.prog 23 #[.agg #[.string q.name, .bool q.dur, .int .i64 q.depth, .int .i64 q.seq, .int .i64 q.tag, .slice r.ia r.is.length r.ic, .slice r.ha r.hs.length r.hc], .int .i64 now] w fun e w' => ∃ r' : QuR, e = .returned (.tuple #[.agg #[.string (expP q now).name, .bool (expP q now).dur, .int .i64 (expP q now).depth, .int .i64 (expP q now).seq, .int .i64 (expP q now).tag, .slice r'.ia r'.is.length r'.ic, .slice r'.ha r'.hs.length r'.hc], .int .i64 0]) ∧ QuIn w' (expP q now) r' ∧ Below w.heap.size w w' := by
  have h := expire_c q r now hq hf hg
  rw [expR_eq hgd] at h
  exact h.mono fun e w' ⟨r', h1, h2, h3⟩ => ⟨r', h1, h2.qin, h3⟩
end Go.Proofs.YtelhpdnclmpgoaaDoor

/- Layer 10: what can be, by its parts; what a release leaves. -/
namespace Go.Proofs.YtelhpdnclmpgoaaDoor
open Go Go.RowKit Go.Sort
open Go.ChangeShapes Go.WideShapes Go.Deep
set_option linter.unusedSimpArgs false
set_option linter.unusedVariables false

theorem goodI_iff {sq : Int} : ∀ {xs : List Itm} {l : Int}, goodI sq l xs = true ↔ (∀ x ∈ xs, l < x.seq ∧ x.seq ≤ sq ∧ x.m.good = true) ∧ xs.Pairwise (fun a b => a.seq < b.seq)
  | [], l => ⟨fun _ => ⟨(fun x h => by cases h), List.Pairwise.nil⟩, fun _ => rfl⟩
  | x :: r, l => by
    refine ⟨goodI_all, fun ⟨h1, h2⟩ => ?_⟩
    have hx := h1 x (by simp)
    obtain ⟨p1, p2⟩ := List.pairwise_cons.1 h2
    simp only [goodI, Bool.and_eq_true, decide_eq_true_eq]
    exact ⟨⟨⟨hx.1, hx.2.1⟩, hx.2.2⟩, goodI_iff.2 ⟨fun y hy => ⟨p1 y hy, (h1 y (List.mem_cons_of_mem _ hy)).2⟩, p2⟩⟩
/-- One that is held can be. -/
def hok (sq tg : Int) (h : Hld) : Prop := h.tag ≤ tg ∧ 0 ≤ h.conn ∧ h.conn < 8 ∧ 0 ≤ h.sub ∧ h.sub ≤ 1099511627776 ∧ 1 ≤ h.it.seq ∧ h.it.seq ≤ sq ∧ h.it.m.good = true
def hless (a b : Hld) : Prop := a.tag < b.tag ∧ a.it.seq ≠ b.it.seq
theorem notmem_of {s : List Int} {n : Int} : (!(s.contains n)) = true ↔ n ∉ s := by
  cases h : s.contains n with
  | true => exact ⟨(fun e => by cases e), fun e => absurd (List.contains_iff_mem.1 h) e⟩
  | false => exact ⟨(fun _ e => by rw [List.contains_iff_mem.2 e] at h; cases h), fun _ => rfl⟩
theorem goodH_iff {sq tg : Int} : ∀ {hs : List Hld} {l : Int} {s : List Int}, goodH sq tg l s hs = true ↔ (∀ h ∈ hs, l < h.tag ∧ hok sq tg h ∧ h.it.seq ∉ s) ∧ hs.Pairwise hless
  | [], l, s => ⟨fun _ => ⟨(fun x h => by cases h), List.Pairwise.nil⟩, fun _ => rfl⟩
  | h :: r, l, s => by
    have ih := @goodH_iff sq tg r h.tag (s ++ [h.it.seq])
    simp only [goodH, Bool.and_eq_true, decide_eq_true_eq]
    rw [ih, notmem_of]
    constructor
    · rintro ⟨⟨⟨⟨⟨⟨⟨⟨⟨⟨a1, a2⟩, a3⟩, a4⟩, a5⟩, a6⟩, a7⟩, a8⟩, a9⟩, a10⟩, b1, b2⟩
      refine ⟨fun x hx => ?_, List.pairwise_cons.2 ⟨fun x hx => ⟨(b1 x hx).1, fun e => (b1 x hx).2.2 (List.mem_append_right _ (by simp [e]))⟩, b2⟩⟩
      rcases List.mem_cons.1 hx with rfl | hx
      · exact ⟨a1, ⟨a2, a3, a4, a5, a6, a7, a8, a9⟩, a10⟩
      · have := b1 x hx
        exact ⟨by omega, this.2.1, fun e => this.2.2 (List.mem_append_left _ e)⟩
    · rintro ⟨b1, b2⟩
      obtain ⟨p1, p2⟩ := List.pairwise_cons.1 b2
      obtain ⟨a1, ⟨a2, a3, a4, a5, a6, a7, a8, a9⟩, a10⟩ := b1 h (by simp)
      refine ⟨⟨⟨⟨⟨⟨⟨⟨⟨⟨a1, a2⟩, a3⟩, a4⟩, a5⟩, a6⟩, a7⟩, a8⟩, a9⟩, a10⟩, fun x hx => ⟨(p1 x hx).1, (b1 x (List.mem_cons_of_mem _ hx)).2.1, fun e => ?_⟩, p2⟩
      rcases List.mem_append.1 e with e | e
      · exact (b1 x (List.mem_cons_of_mem _ hx)).2.2 e
      · have e' : x.it.seq = h.it.seq := by simpa using e
        exact (p1 x hx).2 e'.symm
/-- A queue that can be, by its parts. -/
structure Can (q : Que) : Prop where
  nm : nameB q.name = true
  d1 : 1 ≤ q.depth
  d2 : q.depth ≤ 64
  s1 : 0 ≤ q.seq
  s2 : q.seq ≤ 1099511627776
  t1 : 0 ≤ q.tag
  t2 : q.tag ≤ 1099511627776
  len : (q.items.length : Int) + q.held.length ≤ q.depth
  ia : ∀ x ∈ q.items, 0 < x.seq ∧ x.seq ≤ q.seq ∧ x.m.good = true
  ip : q.items.Pairwise (fun a b => a.seq < b.seq)
  ha : ∀ h ∈ q.held, 0 < h.tag ∧ hok q.seq q.tag h ∧ h.it.seq ∉ q.items.map Itm.seq
  hp : q.held.Pairwise hless
theorem can_iff {q : Que} : goodQ q = true ↔ Can q := by
  unfold goodQ headQ
  simp only [Bool.and_eq_true, decide_eq_true_eq]
  rw [goodI_iff, goodH_iff]
  exact ⟨fun ⟨⟨⟨⟨⟨⟨⟨⟨a1, a2⟩, a3⟩, a4⟩, a5⟩, a6⟩, a7⟩, a8⟩, ⟨b1, b2⟩, c1, c2⟩ => ⟨a1, a2, a3, a4, a5, a6, a7, a8, b1, b2, c1, c2⟩,
    fun ⟨a1, a2, a3, a4, a5, a6, a7, a8, b1, b2, c1, c2⟩ => ⟨⟨⟨⟨⟨⟨⟨⟨a1, a2⟩, a3⟩, a4⟩, a5⟩, a6⟩, a7⟩, a8⟩, ⟨b1, b2⟩, c1, c2⟩⟩
theorem mem_insQ {l : List Itm} {y z : Itm} : z ∈ insQ l y ↔ z ∈ l ∨ z = ⟨y.seq, true, y.m⟩ := by
  unfold insQ
  have h : z ∈ l ↔ z ∈ l.takeWhile (fun z => decide (z.seq < y.seq)) ∨ z ∈ l.dropWhile (fun z => decide (z.seq < y.seq)) := by
    rw [← List.mem_append, List.takeWhile_append_dropWhile]
  rw [h]
  simp only [List.mem_append, List.mem_singleton]
  constructor
  · rintro ((h | h) | h)
    · exact .inl (.inl h)
    · exact .inr h
    · exact .inl (.inr h)
  · rintro ((h | h) | h)
    · exact .inl (.inl h)
    · exact .inr h
    · exact .inl (.inr h)
theorem ins_strict {l : List Itm} (h : l.Pairwise (fun a b => a.seq < b.seq)) {y : Itm} (hy : y.seq ∉ l.map Itm.seq) : (insQ l y).Pairwise (fun a b => a.seq < b.seq) := by
  have hr : Rise l := h.imp (fun h => by omega)
  unfold insQ
  have hs : (l.takeWhile (fun z => decide (z.seq < y.seq)) ++ l.dropWhile (fun z => decide (z.seq < y.seq))).Pairwise (fun a b => a.seq < b.seq) := by rw [List.takeWhile_append_dropWhile]; exact h
  obtain ⟨h1, h2, h3⟩ := List.pairwise_append.1 hs
  rw [List.append_assoc, List.pairwise_append]
  refine ⟨h1, List.pairwise_cons.2 ⟨fun z hz => ?_, h2⟩, fun a ha b hb => ?_⟩
  · have hge := hr.drop_ge z hz
    have hm : z ∈ l := by rw [← List.takeWhile_append_dropWhile (p := fun z : Itm => decide (z.seq < y.seq)) (l := l)]; exact List.mem_append_right _ hz
    have hne : z.seq ≠ y.seq := fun e => hy (List.mem_map.2 ⟨z, hm, e⟩)
    show y.seq < z.seq
    omega
  · rcases List.mem_cons.1 hb with rfl | hb
    · exact (mem_takeWhile_lt ha).1
    · exact h3 a ha b hb
theorem rel_fold (cn sb sq tg : Int) : ∀ (hs : List Hld) (I : List Itm) (H : List Hld), (∀ x ∈ I, 0 < x.seq ∧ x.seq ≤ sq ∧ x.m.good = true) → I.Pairwise (fun a b => a.seq < b.seq) → (∀ h ∈ H ++ hs, 0 < h.tag ∧ hok sq tg h ∧ h.it.seq ∉ I.map Itm.seq) → (H ++ hs).Pairwise hless →
    (∀ x ∈ (hs.foldl (relOne cn sb) (I, H)).1, 0 < x.seq ∧ x.seq ≤ sq ∧ x.m.good = true) ∧ (hs.foldl (relOne cn sb) (I, H)).1.Pairwise (fun a b => a.seq < b.seq) ∧ (∀ h ∈ (hs.foldl (relOne cn sb) (I, H)).2, 0 < h.tag ∧ hok sq tg h ∧ h.it.seq ∉ (hs.foldl (relOne cn sb) (I, H)).1.map Itm.seq) ∧ (hs.foldl (relOne cn sb) (I, H)).2.Pairwise hless ∧ (hs.foldl (relOne cn sb) (I, H)).1.length + (hs.foldl (relOne cn sb) (I, H)).2.length = I.length + H.length + hs.length
  | [], I, H, h1, h2, h3, h4 => by
    rw [List.append_nil] at h3 h4
    exact ⟨h1, h2, h3, h4, by simp⟩
  | h :: t, I, H, h1, h2, h3, h4 => by
    rw [List.foldl_cons]
    obtain ⟨p1, p2, p3⟩ := List.pairwise_append.1 h4
    obtain ⟨p4, p5⟩ := List.pairwise_cons.1 p2
    have hh := h3 h (by simp)
    cases hc : (h.conn == cn && (sb == -1 || h.sub == sb)) with
    | true =>
      have e : relOne cn sb (I, H) h = (insQ I h.it, H) := by unfold relOne; rw [if_pos hc]
      rw [e]
      have ih := rel_fold cn sb sq tg t (insQ I h.it) H (fun x hx => by
          rcases mem_insQ.1 hx with hx | rfl
          · exact h1 x hx
          · exact ⟨by have := hh.2.1.2.2.2.2.2.1; show 0 < h.it.seq; omega, hh.2.1.2.2.2.2.2.2.1, hh.2.1.2.2.2.2.2.2.2⟩)
        (ins_strict h2 hh.2.2) (fun x hx => by
          have hx' : x ∈ H ++ h :: t := by rcases List.mem_append.1 hx with hx | hx; exact List.mem_append_left _ hx; exact List.mem_append_right _ (List.mem_cons_of_mem _ hx)
          have hx2 := h3 x hx'
          refine ⟨hx2.1, hx2.2.1, fun e => ?_⟩
          obtain ⟨z, hz, he⟩ := List.mem_map.1 e
          rcases mem_insQ.1 hz with hz | rfl
          · exact hx2.2.2 (List.mem_map.2 ⟨z, hz, he⟩)
          · have he' : h.it.seq = x.it.seq := he
            rcases List.mem_append.1 hx with hx | hx
            · exact (p3 x hx h (by simp)).2 he'.symm
            · exact (p4 x hx).2 he')
        (h4.sublist (by simp))
      refine ⟨ih.1, ih.2.1, ih.2.2.1, ih.2.2.2.1, ?_⟩
      rw [ih.2.2.2.2, insQ_len, List.length_cons]
      omega
    | false =>
      have e : relOne cn sb (I, H) h = (I, H ++ [h]) := by unfold relOne; rw [if_neg (by rw [hc]; decide)]
      rw [e]
      have ea : H ++ [h] ++ t = H ++ h :: t := by simp
      have ih := rel_fold cn sb sq tg t I (H ++ [h]) h1 h2 (by rw [ea]; exact h3) (by rw [ea]; exact h4)
      refine ⟨ih.1, ih.2.1, ih.2.2.1, ih.2.2.2.1, ?_⟩
      rw [ih.2.2.2.2, List.length_append, List.length_singleton, List.length_cons]
      omega
def relP (q : Que) (cn sb : Int) : Que := ⟨q.name, q.dur, q.depth, q.seq, q.tag, (q.held.foldl (relOne cn sb) (q.items, [])).1, (q.held.foldl (relOne cn sb) (q.items, [])).2⟩
theorem goodQ_rel {q : Que} (h : goodQ q = true) (cn sb : Int) : goodQ (relP q cn sb) = true ∧ (relP q cn sb).items.length + (relP q cn sb).held.length = q.items.length + q.held.length := by
  have hC := can_iff.1 h
  have hr := rel_fold cn sb q.seq q.tag q.held q.items [] hC.ia hC.ip (by simpa using hC.ha) (by simpa using hC.hp)
  have hl : (relP q cn sb).items.length + (relP q cn sb).held.length = q.items.length + q.held.length := by have := hr.2.2.2.2; rw [List.length_nil, Nat.add_zero] at this; exact this
  refine ⟨can_iff.2 ⟨hC.nm, hC.d1, hC.d2, hC.s1, hC.s2, hC.t1, hC.t2, ?_, hr.1, hr.2.1, hr.2.2.1, hr.2.2.2.1⟩, hl⟩
  have := hC.len
  show ((relP q cn sb).items.length : Int) + (relP q cn sb).held.length ≤ q.depth
  omega
theorem rel_held (cn : Int) : ∀ (hs : List Hld) (I : List Itm) (H : List Hld), (hs.foldl (relOne cn (-1)) (I, H)).2 = H ++ hs.filter (fun h => !(h.conn == cn))
  | [], I, H => by simp
  | h :: t, I, H => by
    rw [List.foldl_cons]
    cases hc : (h.conn == cn) with
    | true =>
      have e : relOne cn (-1) (I, H) h = (insQ I h.it, H) := by unfold relOne; rw [if_pos (by rw [hc]; rfl)]
      rw [e, rel_held cn t, List.filter_cons_of_neg (by rw [hc]; decide)]
    | false =>
      have e : relOne cn (-1) (I, H) h = (I, H ++ [h]) := by unfold relOne; rw [if_neg (by rw [hc, Bool.false_and]; decide)]
      rw [e, rel_held cn t, List.filter_cons_of_pos (by rw [hc]; rfl)]
      simp
theorem rel_none (cn : Int) : ∀ (hs : List Hld) (I : List Itm) (H : List Hld), (∀ h ∈ hs, (h.conn == cn) = false) → hs.foldl (relOne cn (-1)) (I, H) = (I, H ++ hs)
  | [], I, H, _ => by simp
  | h :: t, I, H, hn => by
    have e : relOne cn (-1) (I, H) h = (I, H ++ [h]) := by unfold relOne; rw [if_neg (by rw [hn h (by simp), Bool.false_and]; decide)]
    rw [List.foldl_cons, e, rel_none cn t I (H ++ [h]) (fun x hx => hn x (List.mem_cons_of_mem _ hx))]
    simp
theorem rel_idem (q : Que) (cn : Int) : relP (relP q cn (-1)) cn (-1) = relP q cn (-1) := by
  have h1 : (relP q cn (-1)).held = q.held.filter (fun h => !(h.conn == cn)) := by show (q.held.foldl (relOne cn (-1)) (q.items, [])).2 = _; rw [rel_held]; simp
  have h2 := rel_none cn (relP q cn (-1)).held (relP q cn (-1)).items [] (fun h hh => by
    rw [h1] at hh
    have := (List.mem_filter.1 hh).2
    cases hc : (h.conn == cn) with
    | true => rw [hc] at this; exact absurd this (by decide)
    | false => rfl)
  unfold relP at h2 ⊢
  rw [h2]
  simp
theorem rel_mem (cn : Int) : ∀ (hs : List Hld) (I : List Itm) (H : List Hld), (∀ z ∈ I, z ∈ (hs.foldl (relOne cn (-1)) (I, H)).1) ∧ (∀ h ∈ hs, (h.conn == cn) = true → (⟨h.it.seq, true, h.it.m⟩ : Itm) ∈ (hs.foldl (relOne cn (-1)) (I, H)).1)
  | [], I, H => ⟨fun z hz => hz, fun h hh => by cases hh⟩
  | h :: t, I, H => by
    rw [List.foldl_cons]
    cases hc : (h.conn == cn) with
    | true =>
      have e : relOne cn (-1) (I, H) h = (insQ I h.it, H) := by unfold relOne; rw [if_pos (by rw [hc]; rfl)]
      rw [e]
      have ih := rel_mem cn t (insQ I h.it) H
      refine ⟨fun z hz => ih.1 z (mem_insQ.2 (.inl hz)), fun x hx hx2 => ?_⟩
      rcases List.mem_cons.1 hx with rfl | hx
      · exact ih.1 _ (mem_insQ.2 (.inr rfl))
      · exact ih.2 x hx hx2
    | false =>
      have e : relOne cn (-1) (I, H) h = (I, H ++ [h]) := by unfold relOne; rw [if_neg (by rw [hc, Bool.false_and]; decide)]
      rw [e]
      have ih := rel_mem cn t I (H ++ [h])
      refine ⟨ih.1, fun x hx hx2 => ?_⟩
      rcases List.mem_cons.1 hx with rfl | hx
      · rw [hc] at hx2; cases hx2
      · exact ih.2 x hx hx2
theorem fold_fit (cn sb : Int) : ∀ (hs : List Hld) (I : List Itm) (H : List Hld), (∀ x ∈ I, x.m.fit) → (∀ h ∈ H ++ hs, h.it.m.fit) → (∀ x ∈ (hs.foldl (relOne cn sb) (I, H)).1, x.m.fit) ∧ (∀ h ∈ (hs.foldl (relOne cn sb) (I, H)).2, h.it.m.fit)
  | [], I, H, h1, h2 => ⟨h1, by rw [List.append_nil] at h2; exact h2⟩
  | h :: t, I, H, h1, h2 => by
    rw [List.foldl_cons]
    cases hc : (h.conn == cn && (sb == -1 || h.sub == sb)) with
    | true =>
      have e : relOne cn sb (I, H) h = (insQ I h.it, H) := by unfold relOne; rw [if_pos hc]
      rw [e]
      refine fold_fit cn sb t _ _ (fun x hx => ?_) (fun x hx => ?_)
      · rcases mem_insQ.1 hx with hx | rfl
        · exact h1 x hx
        · exact h2 h (by simp)
      · rcases List.mem_append.1 hx with hx | hx
        · exact h2 x (List.mem_append_left _ hx)
        · exact h2 x (List.mem_append_right _ (List.mem_cons_of_mem _ hx))
    | false =>
      have e : relOne cn sb (I, H) h = (I, H ++ [h]) := by unfold relOne; rw [if_neg (by rw [hc]; decide)]
      rw [e]
      exact fold_fit cn sb t _ _ h1 (fun x hx => h2 x (by simpa using hx))
theorem rel_fit {q : Que} (h : q.fit) (hg : goodQ q = true) (cn sb : Int) : (relP q cn sb).fit := by
  have hf := fold_fit cn sb q.held q.items [] h.im (by simpa using h.hm)
  have hl := (goodQ_rel hg cn sb).2
  have h64 := goodQ_len hg
  exact ⟨h.name, by omega, by omega, hf.1, hf.2⟩
theorem relR_eq {q : Que} (h : goodQ q = true) (cn sb : Int) : releaseR q cn sb = (relP q cn sb, 0) := by unfold releaseR; rw [if_pos h]; rfl
theorem rel_step {w : World} (q : Que) (r : QuR) (cn sb : Int) (hq : QuIn w q r) (hf : q.fit) (hg : GM w) (hgd : goodQ q = true) :
    Calls Tryd.prog 21 #[.agg #[.string q.name, .bool q.dur, .int .i64 q.depth, .int .i64 q.seq, .int .i64 q.tag, .slice r.ia r.is.length r.ic, .slice r.ha r.hs.length r.hc], .int .i64 cn, .int .i64 sb] w fun e w' => ∃ r' : QuR, e = .returned (.tuple #[.agg #[.string (relP q cn sb).name, .bool (relP q cn sb).dur, .int .i64 (relP q cn sb).depth, .int .i64 (relP q cn sb).seq, .int .i64 (relP q cn sb).tag, .slice r'.ia r'.is.length r'.ic, .slice r'.ha r'.hs.length r'.hc], .int .i64 0]) ∧ QuIn w' (relP q cn sb) r' ∧ Below w.heap.size w w' := by
  have h := release_c q r cn sb hq hf hg
  rw [relR_eq hgd] at h
  exact h.mono fun e w' ⟨r', h1, h2, h3⟩ => ⟨r', h1, h2.qin, h3⟩
end Go.Proofs.YtelhpdnclmpgoaaDoor

/- Layer 10: a call of any kind, plainly: what can be leads to what can be. -/
namespace Go.Proofs.YtelhpdnclmpgoaaDoor
open Go Go.RowKit Go.Sort
open Go.ChangeShapes Go.WideShapes Go.Deep
set_option linter.unusedSimpArgs false
set_option linter.unusedVariables false

/-- One call. -/
structure OpP where
  kind : Int
  conn : Int
  n : Int
  flag : Bool
  m : Msg
def doesR (q : Que) (o : OpP) : Que × Int × Itm × Int :=
  if o.kind = 0 then ((pushR q o.m).1, 0, noI, (pushR q o.m).2)
  else if o.kind = 1 then takeR q o.conn o.n o.flag
  else if o.kind = 2 then ((settleR q o.conn o.n o.flag).1, 0, noI, (settleR q o.conn o.n o.flag).2)
  else if o.kind = 3 then ((releaseR q o.conn o.n).1, 0, noI, (releaseR q o.conn o.n).2)
  else if o.kind = 4 then ((expireR q o.n).1, 0, noI, (expireR q o.n).2)
  else (q, 0, noI, 0)
/-- The next queue: without an error it can be, is named alike, and its numbers rise; with one there is none. -/
structure Nxt (q x : Que) (e : Int) : Prop where
  bad : e ≠ 0 → x = noQ
  ok : e = 0 → goodQ x = true ∧ x.name = q.name ∧ x.depth = q.depth ∧ q.seq ≤ x.seq ∧ q.tag ≤ x.tag ∧ x.fit
theorem fit_of {q : Que} (h : goodQ q = true) (hn : q.name.size ≤ 1048576) (hi : ∀ x ∈ q.items, x.m.fit) (hh : ∀ h ∈ q.held, h.it.m.fit) : q.fit := by
  have := goodQ_len h
  exact ⟨hn, by omega, by omega, hi, hh⟩
theorem hok_mono {sq sq' tg tg' : Int} {h : Hld} (ho : hok sq tg h) (h1 : sq ≤ sq') (h2 : tg ≤ tg') : hok sq' tg' h := by
  obtain ⟨a1, a2, a3, a4, a5, a6, a7, a8⟩ := ho
  exact ⟨by omega, a2, a3, a4, a5, a6, by omega, a8⟩
theorem nxt_push {q : Que} (hg : goodQ q = true) (hf : q.fit) {m : Msg} (hm : m.fit) : Nxt q (pushR q m).1 (pushR q m).2 := by
  have hC := can_iff.1 hg
  unfold pushR
  split
  · rename_i h1
    split
    · rename_i h2
      split
      · rename_i h3
        refine ⟨fun h => absurd rfl h, fun _ => ?_⟩
        have hgd : goodQ ⟨q.name, q.dur, q.depth, q.seq + 1, q.tag, q.items ++ [⟨q.seq + 1, false, m⟩], q.held⟩ = true := by
          refine can_iff.2 ⟨hC.nm, hC.d1, hC.d2, by have := hC.s1; show 0 ≤ q.seq + 1; omega, by show q.seq + 1 ≤ _; omega, hC.t1, hC.t2, ?_, fun x hx => ?_, ?_, fun h hh => ?_, hC.hp⟩
          · show ((q.items ++ [(⟨q.seq + 1, false, m⟩ : Itm)]).length : Int) + q.held.length ≤ q.depth
            rw [List.length_append, List.length_singleton]
            omega
          · rcases List.mem_append.1 hx with hx | hx
            · have := hC.ia x hx; exact ⟨this.1, by show x.seq ≤ q.seq + 1; omega, this.2.2⟩
            · obtain rfl : x = ⟨q.seq + 1, false, m⟩ := by simpa using hx
              exact ⟨by have := hC.s1; show 0 < q.seq + 1; omega, Int.le_refl _, h2⟩
          · refine List.pairwise_append.2 ⟨hC.ip, List.pairwise_singleton _ _, fun a ha b hb => ?_⟩
            obtain rfl : b = ⟨q.seq + 1, false, m⟩ := by simpa using hb
            have := (hC.ia a ha).2.1; show a.seq < q.seq + 1; omega
          · have := hC.ha h hh
            refine ⟨this.1, hok_mono this.2.1 (by show q.seq ≤ q.seq + 1; omega) (Int.le_refl _), fun e => ?_⟩
            obtain ⟨z, hz, he⟩ := List.mem_map.1 e
            rcases List.mem_append.1 hz with hz | hz
            · exact this.2.2 (List.mem_map.2 ⟨z, hz, he⟩)
            · obtain rfl : z = ⟨q.seq + 1, false, m⟩ := by simpa using hz
              have he' : q.seq + 1 = h.it.seq := he
              have := this.2.1.2.2.2.2.2.2.1; omega
        refine ⟨hgd, rfl, rfl, by show q.seq ≤ q.seq + 1; omega, Int.le_refl _, fit_of hgd hf.name (fun x hx => ?_) hf.hm⟩
        rcases List.mem_append.1 hx with hx | hx
        · exact hf.im x hx
        · obtain rfl : x = ⟨q.seq + 1, false, m⟩ := by simpa using hx
          exact hm
      · exact ⟨fun _ => rfl, fun h => absurd h (by decide)⟩
    · exact ⟨fun _ => rfl, fun h => absurd h (by decide)⟩
  · exact ⟨fun _ => rfl, fun h => absurd h (by decide)⟩
theorem mem_erase0 {α : Type} {l : List α} {k : Nat} {x : α} (h : x ∈ l.eraseIdx k) : x ∈ l := List.mem_of_mem_eraseIdx h
theorem nxt_take {q : Que} (hg : goodQ q = true) (hf : q.fit) (cn sb : Int) (hd : Bool) : Nxt q (takeR q cn sb hd).1 (takeR q cn sb hd).2.2.2 := by
  have hC := can_iff.1 hg
  unfold takeR
  split
  · rename_i h1
    obtain ⟨-, c0, c1, s0, s1, t1⟩ := h1
    split
    · exact ⟨fun _ => rfl, fun h => absurd h (by decide)⟩
    · rename_i x hx
      refine ⟨fun h => absurd rfl h, fun _ => ?_⟩
      obtain ⟨y, l, hl⟩ : ∃ y l, q.items = y :: l := by
        cases hi : q.items with
        | nil => rw [hi] at hx; cases hx
        | cons y l => exact ⟨y, l, rfl⟩
      obtain rfl : y = x := by rw [hl] at hx; injection hx
      have hxm : y ∈ q.items := by rw [hl]; simp
      have hp := hC.ip
      rw [hl] at hp
      obtain ⟨p1, p2⟩ := List.pairwise_cons.1 hp
      have he : q.items.eraseIdx 0 = l := by rw [hl]; rfl
      rw [he]
      have hll : q.items.length = l.length + 1 := by rw [hl]; rfl
      have hsub : ∀ z ∈ l, z ∈ q.items := fun z hz => by rw [hl]; exact List.mem_cons_of_mem _ hz
      cases hd with
      | false =>
        have hgd : goodQ ⟨q.name, q.dur, q.depth, q.seq, q.tag, l, q.held⟩ = true :=
          can_iff.2 ⟨hC.nm, hC.d1, hC.d2, hC.s1, hC.s2, hC.t1, hC.t2, by have := hC.len; show (l.length : Int) + q.held.length ≤ q.depth; omega, fun z hz => hC.ia z (hsub z hz), p2,
            fun h hh => ⟨(hC.ha h hh).1, (hC.ha h hh).2.1, fun e => by obtain ⟨z, hz, he⟩ := List.mem_map.1 e; exact (hC.ha h hh).2.2 (List.mem_map.2 ⟨z, hsub z hz, he⟩)⟩, hC.hp⟩
        exact ⟨hgd, rfl, rfl, Int.le_refl _, Int.le_refl _, fit_of hgd hf.name (fun z hz => hf.im z (hsub z hz)) hf.hm⟩
      | true =>
        have hgd : goodQ ⟨q.name, q.dur, q.depth, q.seq, q.tag + 1, l, q.held ++ [⟨q.tag + 1, cn, sb, y⟩]⟩ = true := by
          have hy := hC.ia y hxm
          have hT := hC.t1
          refine can_iff.2 ⟨hC.nm, hC.d1, hC.d2, hC.s1, hC.s2, by show 0 ≤ q.tag + 1; omega, by show q.tag + 1 ≤ _; omega, ?_, fun z hz => hC.ia z (hsub z hz), p2, fun h hh => ?_, ?_⟩
          · have := hC.len
            show (l.length : Int) + (q.held ++ [(⟨q.tag + 1, cn, sb, y⟩ : Hld)]).length ≤ q.depth
            rw [List.length_append, List.length_singleton]
            omega
          · rcases List.mem_append.1 hh with hh | hh
            · exact ⟨(hC.ha h hh).1, hok_mono (hC.ha h hh).2.1 (Int.le_refl _) (by show q.tag ≤ q.tag + 1; omega), fun e => by obtain ⟨z, hz, he⟩ := List.mem_map.1 e; exact (hC.ha h hh).2.2 (List.mem_map.2 ⟨z, hsub z hz, he⟩)⟩
            · obtain rfl : h = ⟨q.tag + 1, cn, sb, y⟩ := by simpa using hh
              refine ⟨by show 0 < q.tag + 1; omega, ⟨Int.le_refl _, c0, c1, s0, s1, by have := hy.1; show 1 ≤ y.seq; omega, hy.2.1, hy.2.2⟩, fun e => ?_⟩
              obtain ⟨z, hz, he⟩ := List.mem_map.1 e
              have := p1 z hz
              have he' : z.seq = y.seq := he
              omega
          · refine List.pairwise_append.2 ⟨hC.hp, List.pairwise_singleton _ _, fun a ha b hb => ?_⟩
            obtain rfl : b = ⟨q.tag + 1, cn, sb, y⟩ := by simpa using hb
            have h2 := hC.ha a ha
            exact ⟨by have := h2.2.1.1; show a.tag < q.tag + 1; omega, fun e => h2.2.2 (List.mem_map.2 ⟨y, hxm, e.symm⟩)⟩
        refine ⟨hgd, rfl, rfl, Int.le_refl _, by show q.tag ≤ q.tag + 1; omega, fit_of hgd hf.name (fun z hz => hf.im z (hsub z hz)) (fun h hh => ?_)⟩
        rcases List.mem_append.1 hh with hh | hh
        · exact hf.hm h hh
        · obtain rfl : h = ⟨q.tag + 1, cn, sb, y⟩ := by simpa using hh
          exact hf.im y hxm
  · exact ⟨fun _ => rfl, fun h => absurd h (by decide)⟩
theorem pairwise_erase {α : Type} {R : α → α → Prop} {l : List α} (h : l.Pairwise R) (k : Nat) : (l.eraseIdx k).Pairwise R := h.sublist (List.eraseIdx_sublist _ _)
/-- One that is taken out of the held is none of the others. -/
theorem hless_ne {l : List Hld} (h : l.Pairwise hless) : ∀ {k : Nat} {x : Hld}, l[k]? = some x → ∀ y ∈ l.eraseIdx k, y.it.seq ≠ x.it.seq := by
  induction l with
  | nil => intro k x hx; cases hx
  | cons a t ih =>
    obtain ⟨p1, p2⟩ := List.pairwise_cons.1 h
    intro k x hx y hy
    cases k with
    | zero =>
      obtain rfl : a = x := by injection hx
      exact fun e => (p1 y hy).2 e.symm
    | succ k =>
      have hx' : t[k]? = some x := hx
      have hy' : y ∈ a :: t.eraseIdx k := hy
      rcases List.mem_cons.1 hy' with rfl | hy'
      · exact (p1 x (List.mem_of_getElem? hx')).2
      · exact ih p2 hx' y hy'
theorem nxt_settle {q : Que} (hg : goodQ q = true) (hf : q.fit) (cn tg : Int) (ag : Bool) : Nxt q (settleR q cn tg ag).1 (settleR q cn tg ag).2 := by
  have hC := can_iff.1 hg
  unfold settleR
  rw [if_pos hg]
  split
  · exact ⟨fun _ => rfl, fun h => absurd h (by decide)⟩
  · rename_i k hk
    split
    · exact ⟨fun _ => rfl, fun h => absurd h (by decide)⟩
    · rename_i h hh
      refine ⟨fun e => absurd rfl e, fun _ => ?_⟩
      have hkl := (List.getElem?_eq_some_iff.1 hh).1
      have hm : h ∈ q.held := List.mem_of_getElem? hh
      have hle : (q.held.eraseIdx k).length + 1 = q.held.length := by rw [List.length_eraseIdx]; simp only [hkl, if_true]; omega
      have h0 := hC.ha h hm
      have hne := hless_ne hC.hp hh
      cases ag with
      | false =>
        have hgd : goodQ ⟨q.name, q.dur, q.depth, q.seq, q.tag, q.items, q.held.eraseIdx k⟩ = true :=
          can_iff.2 ⟨hC.nm, hC.d1, hC.d2, hC.s1, hC.s2, hC.t1, hC.t2, by have := hC.len; show (q.items.length : Int) + (q.held.eraseIdx k).length ≤ q.depth; omega, hC.ia, hC.ip, fun x hx => hC.ha x (mem_erase0 hx), pairwise_erase hC.hp k⟩
        exact ⟨hgd, rfl, rfl, Int.le_refl _, Int.le_refl _, fit_of hgd hf.name hf.im (fun x hx => hf.hm x (mem_erase0 hx))⟩
      | true =>
        have hgd : goodQ ⟨q.name, q.dur, q.depth, q.seq, q.tag, insQ q.items h.it, q.held.eraseIdx k⟩ = true := by
          refine can_iff.2 ⟨hC.nm, hC.d1, hC.d2, hC.s1, hC.s2, hC.t1, hC.t2, ?_, fun x hx => ?_, ins_strict hC.ip h0.2.2, fun x hx => ⟨(hC.ha x (mem_erase0 hx)).1, (hC.ha x (mem_erase0 hx)).2.1, fun e => ?_⟩, pairwise_erase hC.hp k⟩
          · have := hC.len
            show ((insQ q.items h.it).length : Int) + (q.held.eraseIdx k).length ≤ q.depth
            rw [insQ_len]
            omega
          · rcases mem_insQ.1 hx with hx | rfl
            · exact hC.ia x hx
            · exact ⟨by have := h0.2.1.2.2.2.2.2.1; show 0 < h.it.seq; omega, h0.2.1.2.2.2.2.2.2.1, h0.2.1.2.2.2.2.2.2.2⟩
          · obtain ⟨z, hz, he⟩ := List.mem_map.1 e
            rcases mem_insQ.1 hz with hz | rfl
            · exact (hC.ha x (mem_erase0 hx)).2.2 (List.mem_map.2 ⟨z, hz, he⟩)
            · have he' : h.it.seq = x.it.seq := he
              exact hne x hx he'.symm
        refine ⟨hgd, rfl, rfl, Int.le_refl _, Int.le_refl _, fit_of hgd hf.name (fun x hx => ?_) (fun x hx => hf.hm x (mem_erase0 hx))⟩
        rcases mem_insQ.1 hx with hx | rfl
        · exact hf.im x hx
        · exact hf.hm h hm
theorem nxt_does {q : Que} (hg : goodQ q = true) (hf : q.fit) (o : OpP) (hm : o.m.fit) : Nxt q (doesR q o).1 (doesR q o).2.2.2 := by
  unfold doesR
  split
  · exact nxt_push hg hf hm
  · split
    · exact nxt_take hg hf _ _ _
    · split
      · exact nxt_settle hg hf _ _ _
      · split
        · rw [relR_eq hg]
          exact ⟨fun h => absurd rfl h, fun _ => ⟨(goodQ_rel hg _ _).1, rfl, rfl, Int.le_refl _, Int.le_refl _, rel_fit hf hg _ _⟩⟩
        · split
          · rw [expR_eq hg]
            exact ⟨fun h => absurd rfl h, fun _ => ⟨goodQ_exp hg _, rfl, rfl, Int.le_refl _, Int.le_refl _, exp_fit hf _⟩⟩
          · exact ⟨fun h => absurd rfl h, fun _ => ⟨hg, rfl, rfl, Int.le_refl _, Int.le_refl _, hf⟩⟩
end Go.Proofs.YtelhpdnclmpgoaaDoor
