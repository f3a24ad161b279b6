/- Texts of this claim, joined: QgA, QhA, QhB, QfD. -/
import Derived.Test.YtelhpdnclmpgoaaDoorQeZ
import Derived.Test.YtelhpdnclmpgoaaDoorQeR
import Derived.Test.YtelhpdnclmpgoaaDoorQeU
import Derived.Test.YtelhpdnclmpgoaaDoorQeC
import Derived.Test.YtelhpdnclmpgoaaDoorQeW
/- Layer 10: what an expiring leaves. (Printed by gen/qge.py.) -/
namespace Go.Proofs.YtelhpdnclmpgoaaDoor
open Go Go.RowKit Go.Sort
open Go.ChangeShapes Go.WideShapes Go.Deep
set_option linter.unusedSimpArgs false
set_option linter.unusedVariables false

def expP (q : Que) (now : Int) : Que := ⟨q.name, q.dur, q.depth, q.seq, q.tag, q.items.filter (fun x => !gone now x), q.held⟩
theorem goodI_filter {sq : Int} (p : Itm → Bool) : ∀ {xs : List Itm} {l l' : Int}, l' ≤ l → goodI sq l xs = true → goodI sq l' (xs.filter p) = true
  | [], l, l', _, _ => rfl
  | x :: r, l, l', hl, h => by
    simp only [goodI, Bool.and_eq_true, decide_eq_true_eq] at h
    obtain ⟨⟨⟨h1, h2⟩, h3⟩, h4⟩ := h
    cases hp : p x with
    | true =>
      rw [List.filter_cons_of_pos hp]
      simp only [goodI, Bool.and_eq_true, decide_eq_true_eq]
      exact ⟨⟨⟨by omega, h2⟩, h3⟩, goodI_filter p (Int.le_refl _) h4⟩
    | false =>
      rw [List.filter_cons_of_neg (by rw [hp]; decide)]
      exact goodI_filter p (by omega) h4
theorem goodH_sub {sq tg : Int} : ∀ {hs : List Hld} {l : Int} {s s' : List Int}, (∀ n, n ∈ s' → n ∈ s) → goodH sq tg l s hs = true → goodH sq tg l s' hs = true
  | [], l, s, s', _, _ => rfl
  | h :: r, l, s, s', hs, hg => by
    simp only [goodH, Bool.and_eq_true] at hg ⊢
    obtain ⟨⟨h1, h2⟩, h3⟩ := hg
    refine ⟨⟨h1, ?_⟩, goodH_sub (fun n hn => ?_) h3⟩
    · cases hc : s'.contains h.it.seq with
      | false => rfl
      | true =>
        have := hs _ (List.contains_iff_mem.1 hc)
        rw [List.contains_iff_mem.2 this] at h2
        exact absurd h2 (by decide)
    · rcases List.mem_append.1 hn with hn | hn
      · exact List.mem_append_left _ (hs n hn)
      · exact List.mem_append_right _ hn
theorem goodQ_exp {q : Que} (h : goodQ q = true) (now : Int) : goodQ (expP q now) = true := by
  unfold goodQ headQ at h ⊢
  simp only [Bool.and_eq_true, decide_eq_true_eq] at h ⊢
  obtain ⟨⟨h1, h2⟩, h3, h4⟩ := h
  refine ⟨⟨h1, ?_⟩, goodI_filter _ (Int.le_refl _) h3, goodH_sub (fun n hn => ?_) h4⟩
  · have : (expP q now).items.length ≤ q.items.length := List.length_filter_le _ _
    show ((expP q now).items.length : Int) + q.held.length ≤ q.depth
    omega
  · obtain ⟨x, hx, rfl⟩ := List.mem_map.1 hn
    exact List.mem_map.2 ⟨x, (List.mem_filter.1 hx).1, rfl⟩
theorem expR_eq {q : Que} (h : goodQ q = true) (now : Int) : expireR q now = (expP q now, 0) := by unfold expireR; rw [if_pos h]; rfl
theorem exp_exp {q : Que} {now later : Int} (h : now ≤ later) : expP (expP q now) later = expP q later := by
  unfold expP
  simp only [List.filter_filter]
  congr 1
  refine List.filter_congr (fun x _ => ?_)
  unfold gone
  by_cases h1 : 0 < x.m.unt
  · by_cases h2 : x.m.unt ≤ later
    · simp [h1, h2]
    · have h3 : ¬ x.m.unt ≤ now := by omega
      simp [h1, h2, h3]
  · simp [h1]
theorem exp_fit {q : Que} (h : q.fit) (now : Int) : (expP q now).fit :=
  ⟨h.name, Nat.le_trans (List.length_filter_le _ _) h.il, h.hl, fun x hx => h.im x (List.mem_filter.1 hx).1, h.hm⟩
/-- Doesn't end, or later. -/
def stayP (now : Int) (x : Itm) : Bool := x.m.unt == 0 || decide (now < x.m.unt)
theorem stay_gone {now : Int} {x : Itm} (h : 0 ≤ x.m.unt) : (!gone now x) = stayP now x := by
  unfold gone stayP
  by_cases h1 : 0 < x.m.unt
  · have e : (x.m.unt == 0) = false := by rw [beq_eq_false_iff_ne]; omega
    by_cases h2 : x.m.unt ≤ now
    · have h3 : ¬ now < x.m.unt := by omega
      simp [h1, h2, e, h3]
    · have h3 : now < x.m.unt := by omega
      simp [h1, h2, e, h3]
  · have h0 : x.m.unt = 0 := by omega
    simp [h0]
theorem good_unt {q : Que} (h : goodQ q = true) : ∀ x ∈ q.items, 0 ≤ x.m.unt := fun x hx => by
  unfold goodQ at h
  simp only [Bool.and_eq_true] at h
  have := ((goodI_all h.2.1).1 x hx).2.2
  unfold Msg.good at this
  simp only [Bool.and_eq_true, decide_eq_true_eq] at this
  exact this.1.2
theorem exp_stay {q : Que} (h : goodQ q = true) (now : Int) : (expP q now).items = q.items.filter (stayP now) :=
  List.filter_congr (fun x hx => stay_gone (good_unt h x hx))
theorem cnt_step {l : List Itm} {p : Itm → Bool} {k : Nat} {x : Itm} (hx : l[k]? = some x) : ((l.take (k + 1)).filter p).length = ((l.take k).filter p).length + (if p x = true then 1 else 0) := by
  rw [List.take_add_one, hx, List.filter_append, List.length_append]
  congr 1
  cases hp : p x <;> simp [hp]
theorem exp_step {w : World} (q : Que) (r : QuR) (now : Int) (hq : QuIn w q r) (hf : q.fit) (hg : GM w) (hgd : goodQ q = true) :
    Calls Tryd.prog 23 #[.agg #[.string q.name, .bool q.dur, .int .i64 q.depth, .int .i64 q.seq, .int .i64 q.tag, .slice r.ia r.is.length r.ic, .slice r.ha r.hs.length r.hc], .int .i64 now] w fun e w' => ∃ r' : QuR, e = .returned (.tuple #[.agg #[.string (expP q now).name, .bool (expP q now).dur, .int .i64 (expP q now).depth, .int .i64 (expP q now).seq, .int .i64 (expP q now).tag, .slice r'.ia r'.is.length r'.ic, .slice r'.ha r'.hs.length r'.hc], .int .i64 0]) ∧ QuIn w' (expP q now) r' ∧ Below w.heap.size w w' := by
  have h := expire_c q r now hq hf hg
  rw [expR_eq hgd] at h
  exact h.mono fun e w' ⟨r', h1, h2, h3⟩ => ⟨r', h1, h2.qin, h3⟩
end Go.Proofs.YtelhpdnclmpgoaaDoor

/- Layer 10: what can be, by its parts; what a release leaves. -/
namespace Go.Proofs.YtelhpdnclmpgoaaDoor
open Go Go.RowKit Go.Sort
open Go.ChangeShapes Go.WideShapes Go.Deep
set_option linter.unusedSimpArgs false
set_option linter.unusedVariables false

theorem goodI_iff {sq : Int} : ∀ {xs : List Itm} {l : Int}, goodI sq l xs = true ↔ (∀ x ∈ xs, l < x.seq ∧ x.seq ≤ sq ∧ x.m.good = true) ∧ xs.Pairwise (fun a b => a.seq < b.seq)
  | [], l => ⟨fun _ => ⟨(fun x h => by cases h), List.Pairwise.nil⟩, fun _ => rfl⟩
  | x :: r, l => by
    refine ⟨goodI_all, fun ⟨h1, h2⟩ => ?_⟩
    have hx := h1 x (by simp)
    obtain ⟨p1, p2⟩ := List.pairwise_cons.1 h2
    simp only [goodI, Bool.and_eq_true, decide_eq_true_eq]
    exact ⟨⟨⟨hx.1, hx.2.1⟩, hx.2.2⟩, goodI_iff.2 ⟨fun y hy => ⟨p1 y hy, (h1 y (List.mem_cons_of_mem _ hy)).2⟩, p2⟩⟩
/-- One that is held can be. -/
def hok (sq tg : Int) (h : Hld) : Prop := h.tag ≤ tg ∧ 0 ≤ h.conn ∧ h.conn < 8 ∧ 0 ≤ h.sub ∧ h.sub ≤ 1099511627776 ∧ 1 ≤ h.it.seq ∧ h.it.seq ≤ sq ∧ h.it.m.good = true
def hless (a b : Hld) : Prop := a.tag < b.tag ∧ a.it.seq ≠ b.it.seq
theorem notmem_of {s : List Int} {n : Int} : (!(s.contains n)) = true ↔ n ∉ s := by
  cases h : s.contains n with
  | true => exact ⟨(fun e => by cases e), fun e => absurd (List.contains_iff_mem.1 h) e⟩
  | false => exact ⟨(fun _ e => by rw [List.contains_iff_mem.2 e] at h; cases h), fun _ => rfl⟩
theorem goodH_iff {sq tg : Int} : ∀ {hs : List Hld} {l : Int} {s : List Int}, goodH sq tg l s hs = true ↔ (∀ h ∈ hs, l < h.tag ∧ hok sq tg h ∧ h.it.seq ∉ s) ∧ hs.Pairwise hless
  | [], l, s => ⟨fun _ => ⟨(fun x h => by cases h), List.Pairwise.nil⟩, fun _ => rfl⟩
  | h :: r, l, s => by
    have ih := @goodH_iff sq tg r h.tag (s ++ [h.it.seq])
    simp only [goodH, Bool.and_eq_true, decide_eq_true_eq]
    rw [ih, notmem_of]
    constructor
    · rintro ⟨⟨⟨⟨⟨⟨⟨⟨⟨⟨a1, a2⟩, a3⟩, a4⟩, a5⟩, a6⟩, a7⟩, a8⟩, a9⟩, a10⟩, b1, b2⟩
      refine ⟨fun x hx => ?_, List.pairwise_cons.2 ⟨fun x hx => ⟨(b1 x hx).1, fun e => (b1 x hx).2.2 (List.mem_append_right _ (by simp [e]))⟩, b2⟩⟩
      rcases List.mem_cons.1 hx with rfl | hx
      · exact ⟨a1, ⟨a2, a3, a4, a5, a6, a7, a8, a9⟩, a10⟩
      · have := b1 x hx
        exact ⟨by omega, this.2.1, fun e => this.2.2 (List.mem_append_left _ e)⟩
    · rintro ⟨b1, b2⟩
      obtain ⟨p1, p2⟩ := List.pairwise_cons.1 b2
      obtain ⟨a1, ⟨a2, a3, a4, a5, a6, a7, a8, a9⟩, a10⟩ := b1 h (by simp)
      refine ⟨⟨⟨⟨⟨⟨⟨⟨⟨⟨a1, a2⟩, a3⟩, a4⟩, a5⟩, a6⟩, a7⟩, a8⟩, a9⟩, a10⟩, fun x hx => ⟨(p1 x hx).1, (b1 x (List.mem_cons_of_mem _ hx)).2.1, fun e => ?_⟩, p2⟩
      rcases List.mem_append.1 e with e | e
      · exact (b1 x (List.mem_cons_of_mem _ hx)).2.2 e
      · have e' : x.it.seq = h.it.seq := by simpa using e
        exact (p1 x hx).2 e'.symm
/-- A queue that can be, by its parts. -/
structure Can (q : Que) : Prop where
  nm : nameB q.name = true
  d1 : 1 ≤ q.depth
  d2 : q.depth ≤ 64
  s1 : 0 ≤ q.seq
  s2 : q.seq ≤ 1099511627776
  t1 : 0 ≤ q.tag
  t2 : q.tag ≤ 1099511627776
  len : (q.items.length : Int) + q.held.length ≤ q.depth
  ia : ∀ x ∈ q.items, 0 < x.seq ∧ x.seq ≤ q.seq ∧ x.m.good = true
  ip : q.items.Pairwise (fun a b => a.seq < b.seq)
  ha : ∀ h ∈ q.held, 0 < h.tag ∧ hok q.seq q.tag h ∧ h.it.seq ∉ q.items.map Itm.seq
  hp : q.held.Pairwise hless
theorem can_iff {q : Que} : goodQ q = true ↔ Can q := by
  unfold goodQ headQ
  simp only [Bool.and_eq_true, decide_eq_true_eq]
  rw [goodI_iff, goodH_iff]
  exact ⟨fun ⟨⟨⟨⟨⟨⟨⟨⟨a1, a2⟩, a3⟩, a4⟩, a5⟩, a6⟩, a7⟩, a8⟩, ⟨b1, b2⟩, c1, c2⟩ => ⟨a1, a2, a3, a4, a5, a6, a7, a8, b1, b2, c1, c2⟩,
    fun ⟨a1, a2, a3, a4, a5, a6, a7, a8, b1, b2, c1, c2⟩ => ⟨⟨⟨⟨⟨⟨⟨⟨a1, a2⟩, a3⟩, a4⟩, a5⟩, a6⟩, a7⟩, a8⟩, ⟨b1, b2⟩, c1, c2⟩⟩
theorem mem_insQ {l : List Itm} {y z : Itm} : z ∈ insQ l y ↔ z ∈ l ∨ z = ⟨y.seq, true, y.m⟩ := by
  unfold insQ
  have h : z ∈ l ↔ z ∈ l.takeWhile (fun z => decide (z.seq < y.seq)) ∨ z ∈ l.dropWhile (fun z => decide (z.seq < y.seq)) := by
    rw [← List.mem_append, List.takeWhile_append_dropWhile]
  rw [h]
  simp only [List.mem_append, List.mem_singleton]
  constructor
  · rintro ((h | h) | h)
    · exact .inl (.inl h)
    · exact .inr h
    · exact .inl (.inr h)
  · rintro ((h | h) | h)
    · exact .inl (.inl h)
    · exact .inr h
    · exact .inl (.inr h)
theorem ins_strict {l : List Itm} (h : l.Pairwise (fun a b => a.seq < b.seq)) {y : Itm} (hy : y.seq ∉ l.map Itm.seq) : (insQ l y).Pairwise (fun a b => a.seq < b.seq) := by
  have hr : Rise l := h.imp (fun h => by omega)
  unfold insQ
  have hs : (l.takeWhile (fun z => decide (z.seq < y.seq)) ++ l.dropWhile (fun z => decide (z.seq < y.seq))).Pairwise (fun a b => a.seq < b.seq) := by rw [List.takeWhile_append_dropWhile]; exact h
  obtain ⟨h1, h2, h3⟩ := List.pairwise_append.1 hs
  rw [List.append_assoc, List.pairwise_append]
  refine ⟨h1, List.pairwise_cons.2 ⟨fun z hz => ?_, h2⟩, fun a ha b hb => ?_⟩
  · have hge := hr.drop_ge z hz
    have hm : z ∈ l := by rw [← List.takeWhile_append_dropWhile (p := fun z : Itm => decide (z.seq < y.seq)) (l := l)]; exact List.mem_append_right _ hz
    have hne : z.seq ≠ y.seq := fun e => hy (List.mem_map.2 ⟨z, hm, e⟩)
    show y.seq < z.seq
    omega
  · rcases List.mem_cons.1 hb with rfl | hb
    · exact (mem_takeWhile_lt ha).1
    · exact h3 a ha b hb
theorem rel_fold (cn sb sq tg : Int) : ∀ (hs : List Hld) (I : List Itm) (H : List Hld), (∀ x ∈ I, 0 < x.seq ∧ x.seq ≤ sq ∧ x.m.good = true) → I.Pairwise (fun a b => a.seq < b.seq) → (∀ h ∈ H ++ hs, 0 < h.tag ∧ hok sq tg h ∧ h.it.seq ∉ I.map Itm.seq) → (H ++ hs).Pairwise hless →
    (∀ x ∈ (hs.foldl (relOne cn sb) (I, H)).1, 0 < x.seq ∧ x.seq ≤ sq ∧ x.m.good = true) ∧ (hs.foldl (relOne cn sb) (I, H)).1.Pairwise (fun a b => a.seq < b.seq) ∧ (∀ h ∈ (hs.foldl (relOne cn sb) (I, H)).2, 0 < h.tag ∧ hok sq tg h ∧ h.it.seq ∉ (hs.foldl (relOne cn sb) (I, H)).1.map Itm.seq) ∧ (hs.foldl (relOne cn sb) (I, H)).2.Pairwise hless ∧ (hs.foldl (relOne cn sb) (I, H)).1.length + (hs.foldl (relOne cn sb) (I, H)).2.length = I.length + H.length + hs.length
  | [], I, H, h1, h2, h3, h4 => by
    rw [List.append_nil] at h3 h4
    exact ⟨h1, h2, h3, h4, by simp⟩
  | h :: t, I, H, h1, h2, h3, h4 => by
    rw [List.foldl_cons]
    obtain ⟨p1, p2, p3⟩ := List.pairwise_append.1 h4
    obtain ⟨p4, p5⟩ := List.pairwise_cons.1 p2
    have hh := h3 h (by simp)
    cases hc : (h.conn == cn && (sb == -1 || h.sub == sb)) with
    | true =>
      have e : relOne cn sb (I, H) h = (insQ I h.it, H) := by unfold relOne; rw [if_pos hc]
      rw [e]
      have ih := rel_fold cn sb sq tg t (insQ I h.it) H (fun x hx => by
          rcases mem_insQ.1 hx with hx | rfl
          · exact h1 x hx
          · exact ⟨by have := hh.2.1.2.2.2.2.2.1; show 0 < h.it.seq; omega, hh.2.1.2.2.2.2.2.2.1, hh.2.1.2.2.2.2.2.2.2⟩)
        (ins_strict h2 hh.2.2) (fun x hx => by
          have hx' : x ∈ H ++ h :: t := by rcases List.mem_append.1 hx with hx | hx; exact List.mem_append_left _ hx; exact List.mem_append_right _ (List.mem_cons_of_mem _ hx)
          have hx2 := h3 x hx'
          refine ⟨hx2.1, hx2.2.1, fun e => ?_⟩
          obtain ⟨z, hz, he⟩ := List.mem_map.1 e
          rcases mem_insQ.1 hz with hz | rfl
          · exact hx2.2.2 (List.mem_map.2 ⟨z, hz, he⟩)
          · have he' : h.it.seq = x.it.seq := he
            rcases List.mem_append.1 hx with hx | hx
            · exact (p3 x hx h (by simp)).2 he'.symm
            · exact (p4 x hx).2 he')
        (h4.sublist (by simp))
      refine ⟨ih.1, ih.2.1, ih.2.2.1, ih.2.2.2.1, ?_⟩
      rw [ih.2.2.2.2, insQ_len, List.length_cons]
      omega
    | false =>
      have e : relOne cn sb (I, H) h = (I, H ++ [h]) := by unfold relOne; rw [if_neg (by rw [hc]; decide)]
      rw [e]
      have ea : H ++ [h] ++ t = H ++ h :: t := by simp
      have ih := rel_fold cn sb sq tg t I (H ++ [h]) h1 h2 (by rw [ea]; exact h3) (by rw [ea]; exact h4)
      refine ⟨ih.1, ih.2.1, ih.2.2.1, ih.2.2.2.1, ?_⟩
      rw [ih.2.2.2.2, List.length_append, List.length_singleton, List.length_cons]
      omega
def relP (q : Que) (cn sb : Int) : Que := ⟨q.name, q.dur, q.depth, q.seq, q.tag, (q.held.foldl (relOne cn sb) (q.items, [])).1, (q.held.foldl (relOne cn sb) (q.items, [])).2⟩
theorem goodQ_rel {q : Que} (h : goodQ q = true) (cn sb : Int) : goodQ (relP q cn sb) = true ∧ (relP q cn sb).items.length + (relP q cn sb).held.length = q.items.length + q.held.length := by
  have hC := can_iff.1 h
  have hr := rel_fold cn sb q.seq q.tag q.held q.items [] hC.ia hC.ip (by simpa using hC.ha) (by simpa using hC.hp)
  have hl : (relP q cn sb).items.length + (relP q cn sb).held.length = q.items.length + q.held.length := by have := hr.2.2.2.2; rw [List.length_nil, Nat.add_zero] at this; exact this
  refine ⟨can_iff.2 ⟨hC.nm, hC.d1, hC.d2, hC.s1, hC.s2, hC.t1, hC.t2, ?_, hr.1, hr.2.1, hr.2.2.1, hr.2.2.2.1⟩, hl⟩
  have := hC.len
  show ((relP q cn sb).items.length : Int) + (relP q cn sb).held.length ≤ q.depth
  omega
theorem rel_held (cn : Int) : ∀ (hs : List Hld) (I : List Itm) (H : List Hld), (hs.foldl (relOne cn (-1)) (I, H)).2 = H ++ hs.filter (fun h => !(h.conn == cn))
  | [], I, H => by simp
  | h :: t, I, H => by
    rw [List.foldl_cons]
    cases hc : (h.conn == cn) with
    | true =>
      have e : relOne cn (-1) (I, H) h = (insQ I h.it, H) := by unfold relOne; rw [if_pos (by rw [hc]; rfl)]
      rw [e, rel_held cn t, List.filter_cons_of_neg (by rw [hc]; decide)]
    | false =>
      have e : relOne cn (-1) (I, H) h = (I, H ++ [h]) := by unfold relOne; rw [if_neg (by rw [hc, Bool.false_and]; decide)]
      rw [e, rel_held cn t, List.filter_cons_of_pos (by rw [hc]; rfl)]
      simp
theorem rel_none (cn : Int) : ∀ (hs : List Hld) (I : List Itm) (H : List Hld), (∀ h ∈ hs, (h.conn == cn) = false) → hs.foldl (relOne cn (-1)) (I, H) = (I, H ++ hs)
  | [], I, H, _ => by simp
  | h :: t, I, H, hn => by
    have e : relOne cn (-1) (I, H) h = (I, H ++ [h]) := by unfold relOne; rw [if_neg (by rw [hn h (by simp), Bool.false_and]; decide)]
    rw [List.foldl_cons, e, rel_none cn t I (H ++ [h]) (fun x hx => hn x (List.mem_cons_of_mem _ hx))]
    simp
theorem rel_idem (q : Que) (cn : Int) : relP (relP q cn (-1)) cn (-1) = relP q cn (-1) := by
  have h1 : (relP q cn (-1)).held = q.held.filter (fun h => !(h.conn == cn)) := by show (q.held.foldl (relOne cn (-1)) (q.items, [])).2 = _; rw [rel_held]; simp
  have h2 := rel_none cn (relP q cn (-1)).held (relP q cn (-1)).items [] (fun h hh => by
    rw [h1] at hh
    have := (List.mem_filter.1 hh).2
    cases hc : (h.conn == cn) with
    | true => rw [hc] at this; exact absurd this (by decide)
    | false => rfl)
  unfold relP at h2 ⊢
  rw [h2]
  simp
theorem rel_mem (cn : Int) : ∀ (hs : List Hld) (I : List Itm) (H : List Hld), (∀ z ∈ I, z ∈ (hs.foldl (relOne cn (-1)) (I, H)).1) ∧ (∀ h ∈ hs, (h.conn == cn) = true → (⟨h.it.seq, true, h.it.m⟩ : Itm) ∈ (hs.foldl (relOne cn (-1)) (I, H)).1)
  | [], I, H => ⟨fun z hz => hz, fun h hh => by cases hh⟩
  | h :: t, I, H => by
    rw [List.foldl_cons]
    cases hc : (h.conn == cn) with
    | true =>
      have e : relOne cn (-1) (I, H) h = (insQ I h.it, H) := by unfold relOne; rw [if_pos (by rw [hc]; rfl)]
      rw [e]
      have ih := rel_mem cn t (insQ I h.it) H
      refine ⟨fun z hz => ih.1 z (mem_insQ.2 (.inl hz)), fun x hx hx2 => ?_⟩
      rcases List.mem_cons.1 hx with rfl | hx
      · exact ih.1 _ (mem_insQ.2 (.inr rfl))
      · exact ih.2 x hx hx2
    | false =>
      have e : relOne cn (-1) (I, H) h = (I, H ++ [h]) := by unfold relOne; rw [if_neg (by rw [hc, Bool.false_and]; decide)]
      rw [e]
      have ih := rel_mem cn t I (H ++ [h])
      refine ⟨ih.1, fun x hx hx2 => ?_⟩
      rcases List.mem_cons.1 hx with rfl | hx
      · rw [hc] at hx2; cases hx2
      · exact ih.2 x hx hx2
theorem fold_fit (cn sb : Int) : ∀ (hs : List Hld) (I : List Itm) (H : List Hld), (∀ x ∈ I, x.m.fit) → (∀ h ∈ H ++ hs, h.it.m.fit) → (∀ x ∈ (hs.foldl (relOne cn sb) (I, H)).1, x.m.fit) ∧ (∀ h ∈ (hs.foldl (relOne cn sb) (I, H)).2, h.it.m.fit)
  | [], I, H, h1, h2 => ⟨h1, by rw [List.append_nil] at h2; exact h2⟩
  | h :: t, I, H, h1, h2 => by
    rw [List.foldl_cons]
    cases hc : (h.conn == cn && (sb == -1 || h.sub == sb)) with
    | true =>
      have e : relOne cn sb (I, H) h = (insQ I h.it, H) := by unfold relOne; rw [if_pos hc]
      rw [e]
      refine fold_fit cn sb t _ _ (fun x hx => ?_) (fun x hx => ?_)
      · rcases mem_insQ.1 hx with hx | rfl
        · exact h1 x hx
        · exact h2 h (by simp)
      · rcases List.mem_append.1 hx with hx | hx
        · exact h2 x (List.mem_append_left _ hx)
        · exact h2 x (List.mem_append_right _ (List.mem_cons_of_mem _ hx))
    | false =>
      have e : relOne cn sb (I, H) h = (I, H ++ [h]) := by unfold relOne; rw [if_neg (by rw [hc]; decide)]
      rw [e]
      exact fold_fit cn sb t _ _ h1 (fun x hx => h2 x (by simpa using hx))
theorem rel_fit {q : Que} (h : q.fit) (hg : goodQ q = true) (cn sb : Int) : (relP q cn sb).fit := by
  have hf := fold_fit cn sb q.held q.items [] h.im (by simpa using h.hm)
  have hl := (goodQ_rel hg cn sb).2
  have h64 := goodQ_len hg
  exact ⟨h.name, by omega, by omega, hf.1, hf.2⟩
theorem relR_eq {q : Que} (h : goodQ q = true) (cn sb : Int) : releaseR q cn sb = (relP q cn sb, 0) := by unfold releaseR; rw [if_pos h]; rfl
theorem rel_step {w : World} (q : Que) (r : QuR) (cn sb : Int) (hq : QuIn w q r) (hf : q.fit) (hg : GM w) (hgd : goodQ q = true) :
    Calls Tryd.prog 21 #[.agg #[.string q.name, .bool q.dur, .int .i64 q.depth, .int .i64 q.seq, .int .i64 q.tag, .slice r.ia r.is.length r.ic, .slice r.ha r.hs.length r.hc], .int .i64 cn, .int .i64 sb] w fun e w' => ∃ r' : QuR, e = .returned (.tuple #[.agg #[.string (relP q cn sb).name, .bool (relP q cn sb).dur, .int .i64 (relP q cn sb).depth, .int .i64 (relP q cn sb).seq, .int .i64 (relP q cn sb).tag, .slice r'.ia r'.is.length r'.ic, .slice r'.ha r'.hs.length r'.hc], .int .i64 0]) ∧ QuIn w' (relP q cn sb) r' ∧ Below w.heap.size w w' := by
  have h := release_c q r cn sb hq hf hg
  rw [relR_eq hgd] at h
  exact h.mono fun e w' ⟨r', h1, h2, h3⟩ => ⟨r', h1, h2.qin, h3⟩
end Go.Proofs.YtelhpdnclmpgoaaDoor

/- Layer 10: a call of any kind, plainly: what can be leads to what can be. -/
namespace Go.Proofs.YtelhpdnclmpgoaaDoor
open Go Go.RowKit Go.Sort
open Go.ChangeShapes Go.WideShapes Go.Deep
set_option linter.unusedSimpArgs false
set_option linter.unusedVariables false

/-- One call. -/
structure OpP where
  kind : Int
  conn : Int
  n : Int
  flag : Bool
  m : Msg
def doesR (q : Que) (o : OpP) : Que × Int × Itm × Int :=
  if o.kind = 0 then ((pushR q o.m).1, 0, noI, (pushR q o.m).2)
  else if o.kind = 1 then takeR q o.conn o.n o.flag
  else if o.kind = 2 then ((settleR q o.conn o.n o.flag).1, 0, noI, (settleR q o.conn o.n o.flag).2)
  else if o.kind = 3 then ((releaseR q o.conn o.n).1, 0, noI, (releaseR q o.conn o.n).2)
  else if o.kind = 4 then ((expireR q o.n).1, 0, noI, (expireR q o.n).2)
  else (q, 0, noI, 0)
/-- The next queue: without an error it can be, is named alike, and its numbers rise; with one there is none. -/
structure Nxt (q x : Que) (e : Int) : Prop where
  bad : e ≠ 0 → x = noQ
  ok : e = 0 → goodQ x = true ∧ x.name = q.name ∧ x.depth = q.depth ∧ q.seq ≤ x.seq ∧ q.tag ≤ x.tag ∧ x.fit
theorem fit_of {q : Que} (h : goodQ q = true) (hn : q.name.size ≤ 1048576) (hi : ∀ x ∈ q.items, x.m.fit) (hh : ∀ h ∈ q.held, h.it.m.fit) : q.fit := by
  have := goodQ_len h
  exact ⟨hn, by omega, by omega, hi, hh⟩
theorem hok_mono {sq sq' tg tg' : Int} {h : Hld} (ho : hok sq tg h) (h1 : sq ≤ sq') (h2 : tg ≤ tg') : hok sq' tg' h := by
  obtain ⟨a1, a2, a3, a4, a5, a6, a7, a8⟩ := ho
  exact ⟨by omega, a2, a3, a4, a5, a6, by omega, a8⟩
theorem nxt_push {q : Que} (hg : goodQ q = true) (hf : q.fit) {m : Msg} (hm : m.fit) : Nxt q (pushR q m).1 (pushR q m).2 := by
  have hC := can_iff.1 hg
  unfold pushR
  split
  · rename_i h1
    split
    · rename_i h2
      split
      · rename_i h3
        refine ⟨fun h => absurd rfl h, fun _ => ?_⟩
        have hgd : goodQ ⟨q.name, q.dur, q.depth, q.seq + 1, q.tag, q.items ++ [⟨q.seq + 1, false, m⟩], q.held⟩ = true := by
          refine can_iff.2 ⟨hC.nm, hC.d1, hC.d2, by have := hC.s1; show 0 ≤ q.seq + 1; omega, by show q.seq + 1 ≤ _; omega, hC.t1, hC.t2, ?_, fun x hx => ?_, ?_, fun h hh => ?_, hC.hp⟩
          · show ((q.items ++ [(⟨q.seq + 1, false, m⟩ : Itm)]).length : Int) + q.held.length ≤ q.depth
            rw [List.length_append, List.length_singleton]
            omega
          · rcases List.mem_append.1 hx with hx | hx
            · have := hC.ia x hx; exact ⟨this.1, by show x.seq ≤ q.seq + 1; omega, this.2.2⟩
            · obtain rfl : x = ⟨q.seq + 1, false, m⟩ := by simpa using hx
              exact ⟨by have := hC.s1; show 0 < q.seq + 1; omega, Int.le_refl _, h2⟩
          · refine List.pairwise_append.2 ⟨hC.ip, List.pairwise_singleton _ _, fun a ha b hb => ?_⟩
            obtain rfl : b = ⟨q.seq + 1, false, m⟩ := by simpa using hb
            have := (hC.ia a ha).2.1; show a.seq < q.seq + 1; omega
          · have := hC.ha h hh
            refine ⟨this.1, hok_mono this.2.1 (by show q.seq ≤ q.seq + 1; omega) (Int.le_refl _), fun e => ?_⟩
            obtain ⟨z, hz, he⟩ := List.mem_map.1 e
            rcases List.mem_append.1 hz with hz | hz
            · exact this.2.2 (List.mem_map.2 ⟨z, hz, he⟩)
            · obtain rfl : z = ⟨q.seq + 1, false, m⟩ := by simpa using hz
              have he' : q.seq + 1 = h.it.seq := he
              have := this.2.1.2.2.2.2.2.2.1; omega
        refine ⟨hgd, rfl, rfl, by show q.seq ≤ q.seq + 1; omega, Int.le_refl _, fit_of hgd hf.name (fun x hx => ?_) hf.hm⟩
        rcases List.mem_append.1 hx with hx | hx
        · exact hf.im x hx
        · obtain rfl : x = ⟨q.seq + 1, false, m⟩ := by simpa using hx
          exact hm
      · exact ⟨fun _ => rfl, fun h => absurd h (by decide)⟩
    · exact ⟨fun _ => rfl, fun h => absurd h (by decide)⟩
  · exact ⟨fun _ => rfl, fun h => absurd h (by decide)⟩
theorem mem_erase0 {α : Type} {l : List α} {k : Nat} {x : α} (h : x ∈ l.eraseIdx k) : x ∈ l := List.mem_of_mem_eraseIdx h
theorem nxt_take {q : Que} (hg : goodQ q = true) (hf : q.fit) (cn sb : Int) (hd : Bool) : Nxt q (takeR q cn sb hd).1 (takeR q cn sb hd).2.2.2 := by
  have hC := can_iff.1 hg
  unfold takeR
  split
  · rename_i h1
    obtain ⟨-, c0, c1, s0, s1, t1⟩ := h1
    split
    · exact ⟨fun _ => rfl, fun h => absurd h (by decide)⟩
    · rename_i x hx
      refine ⟨fun h => absurd rfl h, fun _ => ?_⟩
      obtain ⟨y, l, hl⟩ : ∃ y l, q.items = y :: l := by
        cases hi : q.items with
        | nil => rw [hi] at hx; cases hx
        | cons y l => exact ⟨y, l, rfl⟩
      obtain rfl : y = x := by rw [hl] at hx; injection hx
      have hxm : y ∈ q.items := by rw [hl]; simp
      have hp := hC.ip
      rw [hl] at hp
      obtain ⟨p1, p2⟩ := List.pairwise_cons.1 hp
      have he : q.items.eraseIdx 0 = l := by rw [hl]; rfl
      rw [he]
      have hll : q.items.length = l.length + 1 := by rw [hl]; rfl
      have hsub : ∀ z ∈ l, z ∈ q.items := fun z hz => by rw [hl]; exact List.mem_cons_of_mem _ hz
      cases hd with
      | false =>
        have hgd : goodQ ⟨q.name, q.dur, q.depth, q.seq, q.tag, l, q.held⟩ = true :=
          can_iff.2 ⟨hC.nm, hC.d1, hC.d2, hC.s1, hC.s2, hC.t1, hC.t2, by have := hC.len; show (l.length : Int) + q.held.length ≤ q.depth; omega, fun z hz => hC.ia z (hsub z hz), p2,
            fun h hh => ⟨(hC.ha h hh).1, (hC.ha h hh).2.1, fun e => by obtain ⟨z, hz, he⟩ := List.mem_map.1 e; exact (hC.ha h hh).2.2 (List.mem_map.2 ⟨z, hsub z hz, he⟩)⟩, hC.hp⟩
        exact ⟨hgd, rfl, rfl, Int.le_refl _, Int.le_refl _, fit_of hgd hf.name (fun z hz => hf.im z (hsub z hz)) hf.hm⟩
      | true =>
        have hgd : goodQ ⟨q.name, q.dur, q.depth, q.seq, q.tag + 1, l, q.held ++ [⟨q.tag + 1, cn, sb, y⟩]⟩ = true := by
          have hy := hC.ia y hxm
          have hT := hC.t1
          refine can_iff.2 ⟨hC.nm, hC.d1, hC.d2, hC.s1, hC.s2, by show 0 ≤ q.tag + 1; omega, by show q.tag + 1 ≤ _; omega, ?_, fun z hz => hC.ia z (hsub z hz), p2, fun h hh => ?_, ?_⟩
          · have := hC.len
            show (l.length : Int) + (q.held ++ [(⟨q.tag + 1, cn, sb, y⟩ : Hld)]).length ≤ q.depth
            rw [List.length_append, List.length_singleton]
            omega
          · rcases List.mem_append.1 hh with hh | hh
            · exact ⟨(hC.ha h hh).1, hok_mono (hC.ha h hh).2.1 (Int.le_refl _) (by show q.tag ≤ q.tag + 1; omega), fun e => by obtain ⟨z, hz, he⟩ := List.mem_map.1 e; exact (hC.ha h hh).2.2 (List.mem_map.2 ⟨z, hsub z hz, he⟩)⟩
            · obtain rfl : h = ⟨q.tag + 1, cn, sb, y⟩ := by simpa using hh
              refine ⟨by show 0 < q.tag + 1; omega, ⟨Int.le_refl _, c0, c1, s0, s1, by have := hy.1; show 1 ≤ y.seq; omega, hy.2.1, hy.2.2⟩, fun e => ?_⟩
              obtain ⟨z, hz, he⟩ := List.mem_map.1 e
              have := p1 z hz
              have he' : z.seq = y.seq := he
              omega
          · refine List.pairwise_append.2 ⟨hC.hp, List.pairwise_singleton _ _, fun a ha b hb => ?_⟩
            obtain rfl : b = ⟨q.tag + 1, cn, sb, y⟩ := by simpa using hb
            have h2 := hC.ha a ha
            exact ⟨by have := h2.2.1.1; show a.tag < q.tag + 1; omega, fun e => h2.2.2 (List.mem_map.2 ⟨y, hxm, e.symm⟩)⟩
        refine ⟨hgd, rfl, rfl, Int.le_refl _, by show q.tag ≤ q.tag + 1; omega, fit_of hgd hf.name (fun z hz => hf.im z (hsub z hz)) (fun h hh => ?_)⟩
        rcases List.mem_append.1 hh with hh | hh
        · exact hf.hm h hh
        · obtain rfl : h = ⟨q.tag + 1, cn, sb, y⟩ := by simpa using hh
          exact hf.im y hxm
  · exact ⟨fun _ => rfl, fun h => absurd h (by decide)⟩
theorem pairwise_erase {α : Type} {R : α → α → Prop} {l : List α} (h : l.Pairwise R) (k : Nat) : (l.eraseIdx k).Pairwise R := h.sublist (List.eraseIdx_sublist _ _)
/-- One that is taken out of the held is none of the others. -/
theorem hless_ne {l : List Hld} (h : l.Pairwise hless) : ∀ {k : Nat} {x : Hld}, l[k]? = some x → ∀ y ∈ l.eraseIdx k, y.it.seq ≠ x.it.seq := by
  induction l with
  | nil => intro k x hx; cases hx
  | cons a t ih =>
    obtain ⟨p1, p2⟩ := List.pairwise_cons.1 h
    intro k x hx y hy
    cases k with
    | zero =>
      obtain rfl : a = x := by injection hx
      exact fun e => (p1 y hy).2 e.symm
    | succ k =>
      have hx' : t[k]? = some x := hx
      have hy' : y ∈ a :: t.eraseIdx k := hy
      rcases List.mem_cons.1 hy' with rfl | hy'
      · exact (p1 x (List.mem_of_getElem? hx')).2
      · exact ih p2 hx' y hy'
theorem nxt_settle {q : Que} (hg : goodQ q = true) (hf : q.fit) (cn tg : Int) (ag : Bool) : Nxt q (settleR q cn tg ag).1 (settleR q cn tg ag).2 := by
  have hC := can_iff.1 hg
  unfold settleR
  rw [if_pos hg]
  split
  · exact ⟨fun _ => rfl, fun h => absurd h (by decide)⟩
  · rename_i k hk
    split
    · exact ⟨fun _ => rfl, fun h => absurd h (by decide)⟩
    · rename_i h hh
      refine ⟨fun e => absurd rfl e, fun _ => ?_⟩
      have hkl := (List.getElem?_eq_some_iff.1 hh).1
      have hm : h ∈ q.held := List.mem_of_getElem? hh
      have hle : (q.held.eraseIdx k).length + 1 = q.held.length := by rw [List.length_eraseIdx]; simp only [hkl, if_true]; omega
      have h0 := hC.ha h hm
      have hne := hless_ne hC.hp hh
      cases ag with
      | false =>
        have hgd : goodQ ⟨q.name, q.dur, q.depth, q.seq, q.tag, q.items, q.held.eraseIdx k⟩ = true :=
          can_iff.2 ⟨hC.nm, hC.d1, hC.d2, hC.s1, hC.s2, hC.t1, hC.t2, by have := hC.len; show (q.items.length : Int) + (q.held.eraseIdx k).length ≤ q.depth; omega, hC.ia, hC.ip, fun x hx => hC.ha x (mem_erase0 hx), pairwise_erase hC.hp k⟩
        exact ⟨hgd, rfl, rfl, Int.le_refl _, Int.le_refl _, fit_of hgd hf.name hf.im (fun x hx => hf.hm x (mem_erase0 hx))⟩
      | true =>
        have hgd : goodQ ⟨q.name, q.dur, q.depth, q.seq, q.tag, insQ q.items h.it, q.held.eraseIdx k⟩ = true := by
          refine can_iff.2 ⟨hC.nm, hC.d1, hC.d2, hC.s1, hC.s2, hC.t1, hC.t2, ?_, fun x hx => ?_, ins_strict hC.ip h0.2.2, fun x hx => ⟨(hC.ha x (mem_erase0 hx)).1, (hC.ha x (mem_erase0 hx)).2.1, fun e => ?_⟩, pairwise_erase hC.hp k⟩
          · have := hC.len
            show ((insQ q.items h.it).length : Int) + (q.held.eraseIdx k).length ≤ q.depth
            rw [insQ_len]
            omega
          · rcases mem_insQ.1 hx with hx | rfl
            · exact hC.ia x hx
            · exact ⟨by have := h0.2.1.2.2.2.2.2.1; show 0 < h.it.seq; omega, h0.2.1.2.2.2.2.2.2.1, h0.2.1.2.2.2.2.2.2.2⟩
          · obtain ⟨z, hz, he⟩ := List.mem_map.1 e
            rcases mem_insQ.1 hz with hz | rfl
            · exact (hC.ha x (mem_erase0 hx)).2.2 (List.mem_map.2 ⟨z, hz, he⟩)
            · have he' : h.it.seq = x.it.seq := he
              exact hne x hx he'.symm
        refine ⟨hgd, rfl, rfl, Int.le_refl _, Int.le_refl _, fit_of hgd hf.name (fun x hx => ?_) (fun x hx => hf.hm x (mem_erase0 hx))⟩
        rcases mem_insQ.1 hx with hx | rfl
        · exact hf.im x hx
        · exact hf.hm h hm
theorem nxt_does {q : Que} (hg : goodQ q = true) (hf : q.fit) (o : OpP) (hm : o.m.fit) : Nxt q (doesR q o).1 (doesR q o).2.2.2 := by
  unfold doesR
  split
  · exact nxt_push hg hf hm
  · split
    · exact nxt_take hg hf _ _ _
    · split
      · exact nxt_settle hg hf _ _ _
      · split
        · rw [relR_eq hg]
          exact ⟨fun h => absurd rfl h, fun _ => ⟨(goodQ_rel hg _ _).1, rfl, rfl, Int.le_refl _, Int.le_refl _, rel_fit hf hg _ _⟩⟩
        · split
          · rw [expR_eq hg]
            exact ⟨fun h => absurd rfl h, fun _ => ⟨goodQ_exp hg _, rfl, rfl, Int.le_refl _, Int.le_refl _, exp_fit hf _⟩⟩
          · exact ⟨fun h => absurd rfl h, fun _ => ⟨hg, rfl, rfl, Int.le_refl _, Int.le_refl _, hf⟩⟩
end Go.Proofs.YtelhpdnclmpgoaaDoor

/- Layer 10: a call of any kind. (Printed by gen/qfd.py.) -/
namespace Go.Proofs.YtelhpdnclmpgoaaDoor
open Go Go.RowKit Go.Sort
open Go.ChangeShapes Go.WideShapes Go.Deep
set_option linter.unusedSimpArgs false
set_option linter.unusedVariables false

/-- Block K holds nothing of the queue. -/
structure QF (K : Nat) (r : QuR) : Prop where
  i : 0 < r.is.length → ∀ a, r.ia = some a → a.block ≠ K
  h : 0 < r.hs.length → ∀ a, r.ha = some a → a.block ≠ K
  ik : ∀ x ∈ r.is, 0 < x.it.m.ps.length → ∀ a, x.pa = some a → a.block ≠ K
  hk : ∀ x ∈ r.hs, 0 < x.r.it.m.ps.length → ∀ a, x.r.pa = some a → a.block ≠ K
theorem QF.ofOwn {w : World} {base K : Nat} {q : Que} {r : QuR} (h : OwnW w base q r) (hK : K < base) : QF K r :=
  ⟨fun _ a ha => by have := own_base h.io a.block (by rw [ha]; rfl); omega, fun _ a ha => by have := own_base h.ho a.block (by rw [ha]; rfl); omega,
    fun x hx hn a ha => by have := ((h.ik x hx).2 hn a ha).1; omega, fun x hx hn a ha => by have := ((h.hk x hx).2 hn a ha).1; omega⟩
theorem QF.ofIn {w : World} {K : Nat} {q : Que} {r : QuR} (h : QuIn w q r) (hK : w.heap.size ≤ K) : QF K r :=
  ⟨fun hn a ha => by have h1 := h.items.1; rw [ha] at h1; have := rc_lt h1 hn (by decide); omega, fun hn a ha => by have h1 := h.held.1; rw [ha] at h1; have := rc_lt h1 hn (by decide); omega,
    fun x hx hn a ha => by have := (h.items.2 x hx).lt hn ha; omega, fun x hx hn a ha => by have := (h.held.2 x hx).lt hn ha; omega⟩
theorem QuIn.set {w w2 : World} {K : Nat} {q : Que} {r : QuR} (h : QuIn w q r) (f : QF K r) (gr : w.grownBy w2 (some K)) : QuIn w2 q r := by
  have old : ∀ y : ItR, y.ok w → (0 < y.it.m.ps.length → ∀ a, y.pa = some a → a.block ≠ K) → y.ok w2 := fun y h1 h2 =>
    rc_keep h1 (fun hn A n c he hlt => gr.block _ hlt (fun e => by injection he with he; injection e with e; exact h2 hn A he e))
  exact ⟨⟨rc_keep h.items.1 (fun hn A n c he hlt => gr.block _ hlt (fun e => by injection he with he; injection e with e; exact f.i hn A he e)), fun x hx => old x (h.items.2 x hx) (f.ik x hx)⟩,
    ⟨rc_keep h.held.1 (fun hn A n c he hlt => gr.block _ hlt (fun e => by injection he with he; injection e with e; exact f.h hn A he e)), fun x hx => old x.r (h.held.2 x hx) (f.hk x hx)⟩, h.ip, h.hp⟩

set_option maxRecDepth 100000 in
set_option maxHeartbeats 4000000 in
theorem does_c {w : World} (q : Que) (r : QuR) (o : OpP) {A : Option Addr} {c : Nat} (hq : QuIn w q r) (hf : q.fit) (hp : RPr w (.slice A o.m.ps.length c) o.m.ps) (hm : o.m.fit) (hg : GM w) :
    Calls Tryd.prog 24 #[.agg #[.string q.name, .bool q.dur, .int .i64 q.depth, .int .i64 q.seq, .int .i64 q.tag, .slice r.ia r.is.length r.ic, .slice r.ha r.hs.length r.hc], .agg #[.int .i64 o.kind, .int .i64 o.conn, .int .i64 o.n, .bool o.flag, .string o.m.top, .string o.m.body, .slice A o.m.ps.length c, .bool o.m.dur, .int .i64 o.m.unt]] w fun e w' => ∃ (r' : QuR) (x' : ItR), e = .returned (.tuple #[.agg #[.string (doesR q o).1.name, .bool (doesR q o).1.dur, .int .i64 (doesR q o).1.depth, .int .i64 (doesR q o).1.seq, .int .i64 (doesR q o).1.tag, .slice r'.ia r'.is.length r'.ic, .slice r'.ha r'.hs.length r'.hc], .int .i64 (doesR q o).2.1, .agg #[.int .i64 x'.it.seq, .bool x'.it.again, .string x'.it.m.top, .string x'.it.m.body, .slice x'.pa x'.it.m.ps.length x'.pc, .bool x'.it.m.dur, .int .i64 x'.it.m.unt], .int .i64 (doesR q o).2.2.2]) ∧ QuIn w' (doesR q o).1 r' ∧ x'.it = (doesR q o).2.2.1 ∧ (∀ K, K < w.heap.size → QF K r → QF K r') ∧ Below w.heap.size w w' := by
  obtain ⟨pr, hpr⟩ : ∃ pr, pr = doesR q o := ⟨_, rfl⟩
  rw [← hpr]
  obtain ⟨W, hW⟩ : ∃ W, W = (((((w.alloc (.cells #[.string q.name, .bool q.dur, .int .i64 q.depth, .int .i64 q.seq, .int .i64 q.tag, .slice r.ia r.is.length r.ic, .slice r.ha r.hs.length r.hc] 25)).alloc (.cells #[.int .i64 o.kind, .int .i64 o.conn, .int .i64 o.n, .bool o.flag, .string o.m.top, .string o.m.body, .slice A o.m.ps.length c, .bool o.m.dur, .int .i64 o.m.unt] 30)).alloc (.cells #[.string ⟨#[]⟩, .bool false, .int .i64 0, .int .i64 0, .int .i64 0, .slice none 0 0, .slice none 0 0] 25)).alloc (.cells #[.int .i64 0, .bool false, .string ⟨#[]⟩, .string ⟨#[]⟩, .slice none 0 0, .bool false, .int .i64 0] 44)).alloc (.cells #[.string q.name, .bool q.dur, .int .i64 q.depth, .int .i64 q.seq, .int .i64 q.tag, .slice r.ia r.is.length r.ic, .slice r.ha r.hs.length r.hc] 25)) := ⟨_, rfl⟩
  have b0 : Below w.heap.size w W := by rw [hW]; exact ((((((Below.refl _ _).alloc (Nat.le_refl _) _).alloc (by simp; try omega) _).alloc (by simp; try omega) _).alloc (by simp; try omega) _).alloc (by simp; try omega) _)
  have hsz : W.heap.size = w.heap.size + 5 := by rw [hW]; simp
  have r0 : W.heap[w.heap.size]? = some (.cells #[.string q.name, .bool q.dur, .int .i64 q.depth, .int .i64 q.seq, .int .i64 q.tag, .slice r.ia r.is.length r.ic, .slice r.ha r.hs.length r.hc] 25 (0, 0)) := by rw [hW]; exact alloc_keep _ (alloc_keep _ (alloc_keep _ (alloc_keep _ (alloc_at _ _ _ (by simp)))))
  have HR0 : Hid (∀ w1, Below W.heap.size W w1 → w1.heap[w.heap.size]? = some (.cells #[.string q.name, .bool q.dur, .int .i64 q.depth, .int .i64 q.seq, .int .i64 q.tag, .slice r.ia r.is.length r.ic, .slice r.ha r.hs.length r.hc] 25 (0, 0))) := Lib.hid (fun w1 b => (b.block (w.heap.size) (by omega)).trans r0)
  have HZ0 : Hid (∀ w1, Below W.heap.size W w1 → ∀ j u, (#[.string q.name, .bool q.dur, .int .i64 q.depth, .int .i64 q.seq, .int .i64 q.tag, .slice r.ia r.is.length r.ic, .slice r.ha r.hs.length r.hc] : Array Value)[j]? = some u → w1.cell? ⟨w.heap.size, j, none⟩ = some u) := Lib.hid (fun w1 b j u hj => by simp only [World.cell?, HR0.out w1 b]; exact hj)
  have HF0 : Hid (∀ w1, Below W.heap.size W w1 → ∀ j, w1.frozen? ⟨w.heap.size, j, none⟩ = false) := Lib.hid (fun w1 b j => frozen_of_row _ _ j _ _ (HR0.out w1 b))
  have r1 : W.heap[w.heap.size + 1]? = some (.cells #[.int .i64 o.kind, .int .i64 o.conn, .int .i64 o.n, .bool o.flag, .string o.m.top, .string o.m.body, .slice A o.m.ps.length c, .bool o.m.dur, .int .i64 o.m.unt] 30 (0, 0)) := by rw [hW]; exact alloc_keep _ (alloc_keep _ (alloc_keep _ (alloc_at _ _ _ (by simp))))
  have HR1 : Hid (∀ w1, Below W.heap.size W w1 → w1.heap[w.heap.size + 1]? = some (.cells #[.int .i64 o.kind, .int .i64 o.conn, .int .i64 o.n, .bool o.flag, .string o.m.top, .string o.m.body, .slice A o.m.ps.length c, .bool o.m.dur, .int .i64 o.m.unt] 30 (0, 0))) := Lib.hid (fun w1 b => (b.block (w.heap.size + 1) (by omega)).trans r1)
  have HZ1 : Hid (∀ w1, Below W.heap.size W w1 → ∀ j u, (#[.int .i64 o.kind, .int .i64 o.conn, .int .i64 o.n, .bool o.flag, .string o.m.top, .string o.m.body, .slice A o.m.ps.length c, .bool o.m.dur, .int .i64 o.m.unt] : Array Value)[j]? = some u → w1.cell? ⟨w.heap.size + 1, j, none⟩ = some u) := Lib.hid (fun w1 b j u hj => by simp only [World.cell?, HR1.out w1 b]; exact hj)
  have HF1 : Hid (∀ w1, Below W.heap.size W w1 → ∀ j, w1.frozen? ⟨w.heap.size + 1, j, none⟩ = false) := Lib.hid (fun w1 b j => frozen_of_row _ _ j _ _ (HR1.out w1 b))
  have r2 : W.heap[w.heap.size + 2]? = some (.cells #[.string ⟨#[]⟩, .bool false, .int .i64 0, .int .i64 0, .int .i64 0, .slice none 0 0, .slice none 0 0] 25 (0, 0)) := by rw [hW]; exact alloc_keep _ (alloc_keep _ (alloc_at _ _ _ (by simp)))
  have HR2 : Hid (∀ w1, Below W.heap.size W w1 → w1.heap[w.heap.size + 2]? = some (.cells #[.string ⟨#[]⟩, .bool false, .int .i64 0, .int .i64 0, .int .i64 0, .slice none 0 0, .slice none 0 0] 25 (0, 0))) := Lib.hid (fun w1 b => (b.block (w.heap.size + 2) (by omega)).trans r2)
  have HZ2 : Hid (∀ w1, Below W.heap.size W w1 → ∀ j u, (#[.string ⟨#[]⟩, .bool false, .int .i64 0, .int .i64 0, .int .i64 0, .slice none 0 0, .slice none 0 0] : Array Value)[j]? = some u → w1.cell? ⟨w.heap.size + 2, j, none⟩ = some u) := Lib.hid (fun w1 b j u hj => by simp only [World.cell?, HR2.out w1 b]; exact hj)
  have HF2 : Hid (∀ w1, Below W.heap.size W w1 → ∀ j, w1.frozen? ⟨w.heap.size + 2, j, none⟩ = false) := Lib.hid (fun w1 b j => frozen_of_row _ _ j _ _ (HR2.out w1 b))
  have r3 : W.heap[w.heap.size + 3]? = some (.cells #[.int .i64 0, .bool false, .string ⟨#[]⟩, .string ⟨#[]⟩, .slice none 0 0, .bool false, .int .i64 0] 44 (0, 0)) := by rw [hW]; exact alloc_keep _ (alloc_at _ _ _ (by simp))
  have HR3 : Hid (∀ w1, Below W.heap.size W w1 → w1.heap[w.heap.size + 3]? = some (.cells #[.int .i64 0, .bool false, .string ⟨#[]⟩, .string ⟨#[]⟩, .slice none 0 0, .bool false, .int .i64 0] 44 (0, 0))) := Lib.hid (fun w1 b => (b.block (w.heap.size + 3) (by omega)).trans r3)
  have HZ3 : Hid (∀ w1, Below W.heap.size W w1 → ∀ j u, (#[.int .i64 0, .bool false, .string ⟨#[]⟩, .string ⟨#[]⟩, .slice none 0 0, .bool false, .int .i64 0] : Array Value)[j]? = some u → w1.cell? ⟨w.heap.size + 3, j, none⟩ = some u) := Lib.hid (fun w1 b j u hj => by simp only [World.cell?, HR3.out w1 b]; exact hj)
  have HF3 : Hid (∀ w1, Below W.heap.size W w1 → ∀ j, w1.frozen? ⟨w.heap.size + 3, j, none⟩ = false) := Lib.hid (fun w1 b j => frozen_of_row _ _ j _ _ (HR3.out w1 b))
  have r4 : W.heap[w.heap.size + 4]? = some (.cells #[.string q.name, .bool q.dur, .int .i64 q.depth, .int .i64 q.seq, .int .i64 q.tag, .slice r.ia r.is.length r.ic, .slice r.ha r.hs.length r.hc] 25 (0, 0)) := by rw [hW]; exact alloc_at _ _ _ (by simp)
  have HR4 : Hid (∀ w1, Below W.heap.size W w1 → w1.heap[w.heap.size + 4]? = some (.cells #[.string q.name, .bool q.dur, .int .i64 q.depth, .int .i64 q.seq, .int .i64 q.tag, .slice r.ia r.is.length r.ic, .slice r.ha r.hs.length r.hc] 25 (0, 0))) := Lib.hid (fun w1 b => (b.block (w.heap.size + 4) (by omega)).trans r4)
  have HZ4 : Hid (∀ w1, Below W.heap.size W w1 → ∀ j u, (#[.string q.name, .bool q.dur, .int .i64 q.depth, .int .i64 q.seq, .int .i64 q.tag, .slice r.ia r.is.length r.ic, .slice r.ha r.hs.length r.hc] : Array Value)[j]? = some u → w1.cell? ⟨w.heap.size + 4, j, none⟩ = some u) := Lib.hid (fun w1 b j u hj => by simp only [World.cell?, HR4.out w1 b]; exact hj)
  have HF4 : Hid (∀ w1, Below W.heap.size W w1 → ∀ j, w1.frozen? ⟨w.heap.size + 4, j, none⟩ = false) := Lib.hid (fun w1 b j => frozen_of_row _ _ j _ _ (HR4.out w1 b))
  have HQ := Lib.hid (hq.below b0)
  have HPS := Lib.hid (rc_below hp b0)
  have HQ0 := Lib.hid hq
  have HF := Lib.hid hf
  have HM := Lib.hid hm
  have HGM := Lib.hid (hg.below b0)
  have HPR := Lib.hid hpr
  have HSZ := Lib.hid hsz
  have HW := Lib.hid hW
  have HB := Lib.hid b0
  have z0 := HZ0.out W (Below.refl _ _) 0 _ rfl
  have z1 := HZ0.out W (Below.refl _ _) 1 _ rfl
  have z2 := HZ0.out W (Below.refl _ _) 2 _ rfl
  have z3 := HZ0.out W (Below.refl _ _) 3 _ rfl
  have z4 := HZ0.out W (Below.refl _ _) 4 _ rfl
  have z5 := HZ0.out W (Below.refl _ _) 5 _ rfl
  have z6 := HZ0.out W (Below.refl _ _) 6 _ rfl
  have o0 := HZ1.out W (Below.refl _ _) 0 _ rfl
  have o1 := HZ1.out W (Below.refl _ _) 1 _ rfl
  have o2 := HZ1.out W (Below.refl _ _) 2 _ rfl
  have o3 := HZ1.out W (Below.refl _ _) 3 _ rfl
  have o4 := HZ1.out W (Below.refl _ _) 4 _ rfl
  have o5 := HZ1.out W (Below.refl _ _) 5 _ rfl
  have o6 := HZ1.out W (Below.refl _ _) 6 _ rfl
  have o7 := HZ1.out W (Below.refl _ _) 7 _ rfl
  have o8 := HZ1.out W (Below.refl _ _) 8 _ rfl
  clear hpr hW b0 hsz r0 r1 r2 r3 r4 hq hf hp hm hg
  go_enter Tryd.func24, Tryd.ntmps24
  go_upto_region 2 with fail
  rw [← HW.out]
  obtain ⟨K4, hK4⟩ : ∃ K, K = w.heap.size + 4 := ⟨_, rfl⟩
  obtain ⟨K3, hK3⟩ : ∃ K, K = w.heap.size + 3 := ⟨_, rfl⟩
  obtain ⟨K2, hK2⟩ : ∃ K, K = w.heap.size + 2 := ⟨_, rfl⟩
  rw [show w.heap.size + 1 + 1 + 1 + 1 = K4 from hK4.symm, show w.heap.size + 1 + 1 + 1 = K3 from hK3.symm, show w.heap.size + 1 + 1 = K2 from hK2.symm]
  rw [← hK4] at HR4 HZ4 HF4
  rw [← hK3] at HR3 HZ3 HF3
  rw [← hK2] at HR2 HZ2 HF2
  have n42 : ¬ K4 = K2 := by omega
  have n43 : ¬ K4 = K3 := by omega
  have n23 : ¬ K2 = K3 := by omega
  have n32 : ¬ K3 = K2 := by omega
  have n24 : ¬ K2 = K4 := by omega
  have n34 : ¬ K3 = K4 := by omega
  have HK := Lib.hid (And.intro hK2 (And.intro hK3 hK4))
  clear hK2 hK3 hK4
  by_cases h0 : o.kind = 0
  · skip
    have hb0 : (o.kind == 0) = true := by rw [h0]; rfl
    have hpr1 : pr = ((pushR q o.m).1, 0, noI, (pushR q o.m).2) := by rw [HPR.out]; unfold doesR; rw [if_pos h0]
    obtain ⟨pp, hpp⟩ : ∃ pp, pp = pushR q o.m := ⟨_, rfl⟩
    have hc := push_c (w := W) q r o.m HQ.out HF.out HPS.out HM.out HGM.out
    rw [← hpp] at hc hpr1
    subst hpr1
    have HC := Lib.hid hc
    clear hc hpp
    go_wp2_with fail
    refine (HC.out).mono ?_
    rintro e w5 ⟨r', rfl, ho, b5⟩
    clear z0 z1 z2 z3 z4 z5 z6 o0 o1 o2 o3 o4 o5 o6 o7 o8
    have HO := Lib.hid ho
    have B5 := Lib.hid b5
    clear ho b5 HC
    have x0 := HZ4.out w5 B5.out 0 _ rfl
    have x1 := HZ4.out w5 B5.out 1 _ rfl
    have x2 := HZ4.out w5 B5.out 2 _ rfl
    have x3 := HZ4.out w5 B5.out 3 _ rfl
    have x4 := HZ4.out w5 B5.out 4 _ rfl
    have x5 := HZ4.out w5 B5.out 5 _ rfl
    have x6 := HZ4.out w5 B5.out 6 _ rfl
    have y0 := HZ2.out w5 B5.out 0 _ rfl
    have y1 := HZ2.out w5 B5.out 1 _ rfl
    have y2 := HZ2.out w5 B5.out 2 _ rfl
    have y3 := HZ2.out w5 B5.out 3 _ rfl
    have y4 := HZ2.out w5 B5.out 4 _ rfl
    have y5 := HZ2.out w5 B5.out 5 _ rfl
    have y6 := HZ2.out w5 B5.out 6 _ rfl
    have u0 := HZ3.out w5 B5.out 0 _ rfl
    have u1 := HZ3.out w5 B5.out 1 _ rfl
    have u2 := HZ3.out w5 B5.out 2 _ rfl
    have u3 := HZ3.out w5 B5.out 3 _ rfl
    have u4 := HZ3.out w5 B5.out 4 _ rfl
    have u5 := HZ3.out w5 B5.out 5 _ rfl
    have u6 := HZ3.out w5 B5.out 6 _ rfl
    have fx := HF4.out w5 B5.out
    have fy := HF2.out w5 B5.out
    have fu := HF3.out w5 B5.out
    go_upto_region 13 with fail
    obtain ⟨V5, hV5⟩ : ∃ V, V = (((((((w5.setCell ⟨K4, 0, none⟩ (.string pp.1.name)).setCell ⟨K4, 1, none⟩ (.bool pp.1.dur)).setCell ⟨K4, 2, none⟩ (.int .i64 pp.1.depth)).setCell ⟨K4, 3, none⟩ (.int .i64 pp.1.seq)).setCell ⟨K4, 4, none⟩ (.int .i64 pp.1.tag)).setCell ⟨K4, 5, none⟩ (.slice r'.ia r'.is.length r'.ic)).setCell ⟨K4, 6, none⟩ (.slice r'.ha r'.hs.length r'.hc)) := ⟨_, rfl⟩
    rw [← hV5]
    have e4 : V5.heap[K4]? = some (.cells #[.string pp.1.name, .bool pp.1.dur, .int .i64 pp.1.depth, .int .i64 pp.1.seq, .int .i64 pp.1.tag, .slice r'.ia r'.is.length r'.ic, .slice r'.ha r'.hs.length r'.hc] 25 (0, 0)) := by rw [hV5]; exact cells7_at (HR4.out w5 B5.out) _ _ _ _ _ _ _
    have e2 : V5.heap[K2]? = some (.cells #[.string ⟨#[]⟩, .bool false, .int .i64 0, .int .i64 0, .int .i64 0, .slice none 0 0, .slice none 0 0] 25 (0, 0)) := by rw [hV5]; exact set7_ne n24 _ _ _ _ _ _ _ (HR2.out w5 B5.out)
    have e3 : V5.heap[K3]? = some (.cells #[.int .i64 0, .bool false, .string ⟨#[]⟩, .string ⟨#[]⟩, .slice none 0 0, .bool false, .int .i64 0] 44 (0, 0)) := by rw [hV5]; exact set7_ne n34 _ _ _ _ _ _ _ (HR3.out w5 B5.out)
    have HV5 := Lib.hid (HO.out.far (w2 := V5) (by rw [hV5]; exact grown7 w5 K4 _ _ _ _ _ _ _) (by have := HSZ.out; have := HK.out; omega))
    have BV5 : Hid (Below w.heap.size w V5) := Lib.hid (by rw [hV5]; exact below7 (HB.out.trans (Below.mono B5.out HB.out.size)) (by have := HK.out; omega) _ _ _ _ _ _ _)
    have E2 := Lib.hid e2
    have E3 := Lib.hid e3
    clear hV5 fx fy fu x0 x1 x2 x3 x4 x5 x6 y0 y1 y2 y3 y4 y5 y6 u0 u1 u2 u3 u4 u5 u6
    have x0 : V5.cell? ⟨K4, 0, none⟩ = some (.string pp.1.name) := by simp only [World.cell?, e4]; rfl
    have x1 : V5.cell? ⟨K4, 1, none⟩ = some (.bool pp.1.dur) := by simp only [World.cell?, e4]; rfl
    have x2 : V5.cell? ⟨K4, 2, none⟩ = some (.int .i64 pp.1.depth) := by simp only [World.cell?, e4]; rfl
    have x3 : V5.cell? ⟨K4, 3, none⟩ = some (.int .i64 pp.1.seq) := by simp only [World.cell?, e4]; rfl
    have x4 : V5.cell? ⟨K4, 4, none⟩ = some (.int .i64 pp.1.tag) := by simp only [World.cell?, e4]; rfl
    have x5 : V5.cell? ⟨K4, 5, none⟩ = some (.slice r'.ia r'.is.length r'.ic) := by simp only [World.cell?, e4]; rfl
    have x6 : V5.cell? ⟨K4, 6, none⟩ = some (.slice r'.ha r'.hs.length r'.hc) := by simp only [World.cell?, e4]; rfl
    have y0 : V5.cell? ⟨K2, 0, none⟩ = some (.string ⟨#[]⟩) := by simp only [World.cell?, e2]; rfl
    have y1 : V5.cell? ⟨K2, 1, none⟩ = some (.bool false) := by simp only [World.cell?, e2]; rfl
    have y2 : V5.cell? ⟨K2, 2, none⟩ = some (.int .i64 0) := by simp only [World.cell?, e2]; rfl
    have y3 : V5.cell? ⟨K2, 3, none⟩ = some (.int .i64 0) := by simp only [World.cell?, e2]; rfl
    have y4 : V5.cell? ⟨K2, 4, none⟩ = some (.int .i64 0) := by simp only [World.cell?, e2]; rfl
    have y5 : V5.cell? ⟨K2, 5, none⟩ = some (.slice none 0 0) := by simp only [World.cell?, e2]; rfl
    have y6 : V5.cell? ⟨K2, 6, none⟩ = some (.slice none 0 0) := by simp only [World.cell?, e2]; rfl
    have u0 : V5.cell? ⟨K3, 0, none⟩ = some (.int .i64 0) := by simp only [World.cell?, e3]; rfl
    have u1 : V5.cell? ⟨K3, 1, none⟩ = some (.bool false) := by simp only [World.cell?, e3]; rfl
    have u2 : V5.cell? ⟨K3, 2, none⟩ = some (.string ⟨#[]⟩) := by simp only [World.cell?, e3]; rfl
    have u3 : V5.cell? ⟨K3, 3, none⟩ = some (.string ⟨#[]⟩) := by simp only [World.cell?, e3]; rfl
    have u4 : V5.cell? ⟨K3, 4, none⟩ = some (.slice none 0 0) := by simp only [World.cell?, e3]; rfl
    have u5 : V5.cell? ⟨K3, 5, none⟩ = some (.bool false) := by simp only [World.cell?, e3]; rfl
    have u6 : V5.cell? ⟨K3, 6, none⟩ = some (.int .i64 0) := by simp only [World.cell?, e3]; rfl
    have fy : ∀ j, V5.frozen? ⟨K2, j, none⟩ = false := fun j => frozen_of_row _ _ j _ _ e2
    have fu : ∀ j, V5.frozen? ⟨K3, j, none⟩ = false := fun j => frozen_of_row _ _ j _ _ e3
    clear e2 e3 e4
    go_wp2_with fail
    refine take_end (w := V5) (g := K2) (g2 := K3) rfl _ _ _ _ _ _ _ _ _ _ _ _ _ _ E2.out E3.out n23 rfl rfl rfl ?_
    exact ⟨r', ⟨noI, none, 0⟩, rfl, (HV5.out.qin.set (QF.ofOwn HO.out (by have := HSZ.out; have := HK.out; omega)) (grown7 _ K2 _ _ _ _ _ _ _)).set (QF.ofOwn HO.out (by have := HSZ.out; have := HK.out; omega)) (grown7 _ K3 _ _ _ _ _ _ _), rfl, (fun K hK _ => QF.ofOwn HO.out (by have := HSZ.out; omega)), below7 (below7 BV5.out (by have := HK.out; omega) _ _ _ _ _ _ _) (by have := HK.out; omega) _ _ _ _ _ _ _⟩
  · skip
    by_cases h1 : o.kind = 1
    · skip
      have hb0 : (o.kind == 0) = false := by rw [beq_eq_false_iff_ne]; exact h0
      have hb1 : (o.kind == 1) = true := by rw [h1]; rfl
      have hpr1 : pr = takeR q o.conn o.n o.flag := by rw [HPR.out]; unfold doesR; rw [if_neg h0, if_pos h1]
      obtain ⟨pp, hpp⟩ : ∃ pp, pp = takeR q o.conn o.n o.flag := ⟨_, rfl⟩
      have hc := take_c (w := W) q r o.conn o.n o.flag HQ.out HF.out HGM.out
      rw [← hpp] at hc hpr1
      subst hpr1
      have HC := Lib.hid hc
      clear hc hpp
      go_wp2_with fail
      refine (HC.out).mono ?_
      rintro e w5 ⟨r', x', rfl, ho, hx, -, -, b5⟩
      clear z0 z1 z2 z3 z4 z5 z6 o0 o1 o2 o3 o4 o5 o6 o7 o8
      have HO := Lib.hid ho
      have HX := Lib.hid hx
      have B5 := Lib.hid b5
      clear ho hx b5 HC
      have y0 := HZ2.out w5 B5.out 0 _ rfl
      have y1 := HZ2.out w5 B5.out 1 _ rfl
      have y2 := HZ2.out w5 B5.out 2 _ rfl
      have y3 := HZ2.out w5 B5.out 3 _ rfl
      have y4 := HZ2.out w5 B5.out 4 _ rfl
      have y5 := HZ2.out w5 B5.out 5 _ rfl
      have y6 := HZ2.out w5 B5.out 6 _ rfl
      have u0 := HZ3.out w5 B5.out 0 _ rfl
      have u1 := HZ3.out w5 B5.out 1 _ rfl
      have u2 := HZ3.out w5 B5.out 2 _ rfl
      have u3 := HZ3.out w5 B5.out 3 _ rfl
      have u4 := HZ3.out w5 B5.out 4 _ rfl
      have u5 := HZ3.out w5 B5.out 5 _ rfl
      have u6 := HZ3.out w5 B5.out 6 _ rfl
      have fy := HF2.out w5 B5.out
      have fu := HF3.out w5 B5.out
      go_wp2_with fail
      refine take_end (w := w5) (g := K2) (g2 := K3) rfl _ _ _ _ _ _ _ _ _ _ _ _ _ _ (HR2.out _ B5.out) (HR3.out _ B5.out) n23 rfl rfl rfl ?_
      exact ⟨r', x', rfl, (HO.out.qin.set (QF.ofOwn HO.out (by have := HSZ.out; have := HK.out; omega)) (grown7 _ K2 _ _ _ _ _ _ _)).set (QF.ofOwn HO.out (by have := HSZ.out; have := HK.out; omega)) (grown7 _ K3 _ _ _ _ _ _ _), HX.out, (fun K hK _ => QF.ofOwn HO.out (by have := HSZ.out; omega)), below7 (below7 (HB.out.trans (Below.mono B5.out HB.out.size)) (by have := HK.out; omega) _ _ _ _ _ _ _) (by have := HK.out; omega) _ _ _ _ _ _ _⟩
    · skip
      by_cases h2 : o.kind = 2
      · skip
        have hb0 : (o.kind == 0) = false := by rw [beq_eq_false_iff_ne]; exact h0
        have hb1 : (o.kind == 1) = false := by rw [beq_eq_false_iff_ne]; exact h1
        have hb2 : (o.kind == 2) = true := by rw [h2]; rfl
        have hpr1 : pr = ((settleR q o.conn o.n o.flag).1, 0, noI, (settleR q o.conn o.n o.flag).2) := by rw [HPR.out]; unfold doesR; rw [if_neg h0, if_neg h1, if_pos h2]
        obtain ⟨pp, hpp⟩ : ∃ pp, pp = settleR q o.conn o.n o.flag := ⟨_, rfl⟩
        have hc := settle_c (w := W) q r o.conn o.n o.flag HQ.out HF.out HGM.out
        rw [← hpp] at hc hpr1
        subst hpr1
        have HC := Lib.hid hc
        clear hc hpp
        go_wp2_with fail
        refine (HC.out).mono ?_
        rintro e w5 ⟨r', rfl, ho, b5⟩
        clear z0 z1 z2 z3 z4 z5 z6 o0 o1 o2 o3 o4 o5 o6 o7 o8
        have HO := Lib.hid ho
        have B5 := Lib.hid b5
        clear ho b5 HC
        have x0 := HZ4.out w5 B5.out 0 _ rfl
        have x1 := HZ4.out w5 B5.out 1 _ rfl
        have x2 := HZ4.out w5 B5.out 2 _ rfl
        have x3 := HZ4.out w5 B5.out 3 _ rfl
        have x4 := HZ4.out w5 B5.out 4 _ rfl
        have x5 := HZ4.out w5 B5.out 5 _ rfl
        have x6 := HZ4.out w5 B5.out 6 _ rfl
        have y0 := HZ2.out w5 B5.out 0 _ rfl
        have y1 := HZ2.out w5 B5.out 1 _ rfl
        have y2 := HZ2.out w5 B5.out 2 _ rfl
        have y3 := HZ2.out w5 B5.out 3 _ rfl
        have y4 := HZ2.out w5 B5.out 4 _ rfl
        have y5 := HZ2.out w5 B5.out 5 _ rfl
        have y6 := HZ2.out w5 B5.out 6 _ rfl
        have u0 := HZ3.out w5 B5.out 0 _ rfl
        have u1 := HZ3.out w5 B5.out 1 _ rfl
        have u2 := HZ3.out w5 B5.out 2 _ rfl
        have u3 := HZ3.out w5 B5.out 3 _ rfl
        have u4 := HZ3.out w5 B5.out 4 _ rfl
        have u5 := HZ3.out w5 B5.out 5 _ rfl
        have u6 := HZ3.out w5 B5.out 6 _ rfl
        have fx := HF4.out w5 B5.out
        have fy := HF2.out w5 B5.out
        have fu := HF3.out w5 B5.out
        go_upto_region 13 with fail
        obtain ⟨V5, hV5⟩ : ∃ V, V = (((((((w5.setCell ⟨K4, 0, none⟩ (.string pp.1.name)).setCell ⟨K4, 1, none⟩ (.bool pp.1.dur)).setCell ⟨K4, 2, none⟩ (.int .i64 pp.1.depth)).setCell ⟨K4, 3, none⟩ (.int .i64 pp.1.seq)).setCell ⟨K4, 4, none⟩ (.int .i64 pp.1.tag)).setCell ⟨K4, 5, none⟩ (.slice r'.ia r'.is.length r'.ic)).setCell ⟨K4, 6, none⟩ (.slice r'.ha r'.hs.length r'.hc)) := ⟨_, rfl⟩
        rw [← hV5]
        have e4 : V5.heap[K4]? = some (.cells #[.string pp.1.name, .bool pp.1.dur, .int .i64 pp.1.depth, .int .i64 pp.1.seq, .int .i64 pp.1.tag, .slice r'.ia r'.is.length r'.ic, .slice r'.ha r'.hs.length r'.hc] 25 (0, 0)) := by rw [hV5]; exact cells7_at (HR4.out w5 B5.out) _ _ _ _ _ _ _
        have e2 : V5.heap[K2]? = some (.cells #[.string ⟨#[]⟩, .bool false, .int .i64 0, .int .i64 0, .int .i64 0, .slice none 0 0, .slice none 0 0] 25 (0, 0)) := by rw [hV5]; exact set7_ne n24 _ _ _ _ _ _ _ (HR2.out w5 B5.out)
        have e3 : V5.heap[K3]? = some (.cells #[.int .i64 0, .bool false, .string ⟨#[]⟩, .string ⟨#[]⟩, .slice none 0 0, .bool false, .int .i64 0] 44 (0, 0)) := by rw [hV5]; exact set7_ne n34 _ _ _ _ _ _ _ (HR3.out w5 B5.out)
        have HV5 := Lib.hid (HO.out.far (w2 := V5) (by rw [hV5]; exact grown7 w5 K4 _ _ _ _ _ _ _) (by have := HSZ.out; have := HK.out; omega))
        have BV5 : Hid (Below w.heap.size w V5) := Lib.hid (by rw [hV5]; exact below7 (HB.out.trans (Below.mono B5.out HB.out.size)) (by have := HK.out; omega) _ _ _ _ _ _ _)
        have E2 := Lib.hid e2
        have E3 := Lib.hid e3
        clear hV5 fx fy fu x0 x1 x2 x3 x4 x5 x6 y0 y1 y2 y3 y4 y5 y6 u0 u1 u2 u3 u4 u5 u6
        have x0 : V5.cell? ⟨K4, 0, none⟩ = some (.string pp.1.name) := by simp only [World.cell?, e4]; rfl
        have x1 : V5.cell? ⟨K4, 1, none⟩ = some (.bool pp.1.dur) := by simp only [World.cell?, e4]; rfl
        have x2 : V5.cell? ⟨K4, 2, none⟩ = some (.int .i64 pp.1.depth) := by simp only [World.cell?, e4]; rfl
        have x3 : V5.cell? ⟨K4, 3, none⟩ = some (.int .i64 pp.1.seq) := by simp only [World.cell?, e4]; rfl
        have x4 : V5.cell? ⟨K4, 4, none⟩ = some (.int .i64 pp.1.tag) := by simp only [World.cell?, e4]; rfl
        have x5 : V5.cell? ⟨K4, 5, none⟩ = some (.slice r'.ia r'.is.length r'.ic) := by simp only [World.cell?, e4]; rfl
        have x6 : V5.cell? ⟨K4, 6, none⟩ = some (.slice r'.ha r'.hs.length r'.hc) := by simp only [World.cell?, e4]; rfl
        have y0 : V5.cell? ⟨K2, 0, none⟩ = some (.string ⟨#[]⟩) := by simp only [World.cell?, e2]; rfl
        have y1 : V5.cell? ⟨K2, 1, none⟩ = some (.bool false) := by simp only [World.cell?, e2]; rfl
        have y2 : V5.cell? ⟨K2, 2, none⟩ = some (.int .i64 0) := by simp only [World.cell?, e2]; rfl
        have y3 : V5.cell? ⟨K2, 3, none⟩ = some (.int .i64 0) := by simp only [World.cell?, e2]; rfl
        have y4 : V5.cell? ⟨K2, 4, none⟩ = some (.int .i64 0) := by simp only [World.cell?, e2]; rfl
        have y5 : V5.cell? ⟨K2, 5, none⟩ = some (.slice none 0 0) := by simp only [World.cell?, e2]; rfl
        have y6 : V5.cell? ⟨K2, 6, none⟩ = some (.slice none 0 0) := by simp only [World.cell?, e2]; rfl
        have u0 : V5.cell? ⟨K3, 0, none⟩ = some (.int .i64 0) := by simp only [World.cell?, e3]; rfl
        have u1 : V5.cell? ⟨K3, 1, none⟩ = some (.bool false) := by simp only [World.cell?, e3]; rfl
        have u2 : V5.cell? ⟨K3, 2, none⟩ = some (.string ⟨#[]⟩) := by simp only [World.cell?, e3]; rfl
        have u3 : V5.cell? ⟨K3, 3, none⟩ = some (.string ⟨#[]⟩) := by simp only [World.cell?, e3]; rfl
        have u4 : V5.cell? ⟨K3, 4, none⟩ = some (.slice none 0 0) := by simp only [World.cell?, e3]; rfl
        have u5 : V5.cell? ⟨K3, 5, none⟩ = some (.bool false) := by simp only [World.cell?, e3]; rfl
        have u6 : V5.cell? ⟨K3, 6, none⟩ = some (.int .i64 0) := by simp only [World.cell?, e3]; rfl
        have fy : ∀ j, V5.frozen? ⟨K2, j, none⟩ = false := fun j => frozen_of_row _ _ j _ _ e2
        have fu : ∀ j, V5.frozen? ⟨K3, j, none⟩ = false := fun j => frozen_of_row _ _ j _ _ e3
        clear e2 e3 e4
        go_wp2_with fail
        refine take_end (w := V5) (g := K2) (g2 := K3) rfl _ _ _ _ _ _ _ _ _ _ _ _ _ _ E2.out E3.out n23 rfl rfl rfl ?_
        exact ⟨r', ⟨noI, none, 0⟩, rfl, (HV5.out.qin.set (QF.ofOwn HO.out (by have := HSZ.out; have := HK.out; omega)) (grown7 _ K2 _ _ _ _ _ _ _)).set (QF.ofOwn HO.out (by have := HSZ.out; have := HK.out; omega)) (grown7 _ K3 _ _ _ _ _ _ _), rfl, (fun K hK _ => QF.ofOwn HO.out (by have := HSZ.out; omega)), below7 (below7 BV5.out (by have := HK.out; omega) _ _ _ _ _ _ _) (by have := HK.out; omega) _ _ _ _ _ _ _⟩
      · skip
        by_cases h3 : o.kind = 3
        · skip
          have hb0 : (o.kind == 0) = false := by rw [beq_eq_false_iff_ne]; exact h0
          have hb1 : (o.kind == 1) = false := by rw [beq_eq_false_iff_ne]; exact h1
          have hb2 : (o.kind == 2) = false := by rw [beq_eq_false_iff_ne]; exact h2
          have hb3 : (o.kind == 3) = true := by rw [h3]; rfl
          have hpr1 : pr = ((releaseR q o.conn o.n).1, 0, noI, (releaseR q o.conn o.n).2) := by rw [HPR.out]; unfold doesR; rw [if_neg h0, if_neg h1, if_neg h2, if_pos h3]
          obtain ⟨pp, hpp⟩ : ∃ pp, pp = releaseR q o.conn o.n := ⟨_, rfl⟩
          have hc := release_c (w := W) q r o.conn o.n HQ.out HF.out HGM.out
          rw [← hpp] at hc hpr1
          subst hpr1
          have HC := Lib.hid hc
          clear hc hpp
          go_wp2_with fail
          refine (HC.out).mono ?_
          rintro e w5 ⟨r', rfl, ho, b5⟩
          clear z0 z1 z2 z3 z4 z5 z6 o0 o1 o2 o3 o4 o5 o6 o7 o8
          have HO := Lib.hid ho
          have B5 := Lib.hid b5
          clear ho b5 HC
          have x0 := HZ4.out w5 B5.out 0 _ rfl
          have x1 := HZ4.out w5 B5.out 1 _ rfl
          have x2 := HZ4.out w5 B5.out 2 _ rfl
          have x3 := HZ4.out w5 B5.out 3 _ rfl
          have x4 := HZ4.out w5 B5.out 4 _ rfl
          have x5 := HZ4.out w5 B5.out 5 _ rfl
          have x6 := HZ4.out w5 B5.out 6 _ rfl
          have y0 := HZ2.out w5 B5.out 0 _ rfl
          have y1 := HZ2.out w5 B5.out 1 _ rfl
          have y2 := HZ2.out w5 B5.out 2 _ rfl
          have y3 := HZ2.out w5 B5.out 3 _ rfl
          have y4 := HZ2.out w5 B5.out 4 _ rfl
          have y5 := HZ2.out w5 B5.out 5 _ rfl
          have y6 := HZ2.out w5 B5.out 6 _ rfl
          have u0 := HZ3.out w5 B5.out 0 _ rfl
          have u1 := HZ3.out w5 B5.out 1 _ rfl
          have u2 := HZ3.out w5 B5.out 2 _ rfl
          have u3 := HZ3.out w5 B5.out 3 _ rfl
          have u4 := HZ3.out w5 B5.out 4 _ rfl
          have u5 := HZ3.out w5 B5.out 5 _ rfl
          have u6 := HZ3.out w5 B5.out 6 _ rfl
          have fx := HF4.out w5 B5.out
          have fy := HF2.out w5 B5.out
          have fu := HF3.out w5 B5.out
          go_upto_region 13 with fail
          obtain ⟨V5, hV5⟩ : ∃ V, V = (((((((w5.setCell ⟨K4, 0, none⟩ (.string pp.1.name)).setCell ⟨K4, 1, none⟩ (.bool pp.1.dur)).setCell ⟨K4, 2, none⟩ (.int .i64 pp.1.depth)).setCell ⟨K4, 3, none⟩ (.int .i64 pp.1.seq)).setCell ⟨K4, 4, none⟩ (.int .i64 pp.1.tag)).setCell ⟨K4, 5, none⟩ (.slice r'.ia r'.is.length r'.ic)).setCell ⟨K4, 6, none⟩ (.slice r'.ha r'.hs.length r'.hc)) := ⟨_, rfl⟩
          rw [← hV5]
          have e4 : V5.heap[K4]? = some (.cells #[.string pp.1.name, .bool pp.1.dur, .int .i64 pp.1.depth, .int .i64 pp.1.seq, .int .i64 pp.1.tag, .slice r'.ia r'.is.length r'.ic, .slice r'.ha r'.hs.length r'.hc] 25 (0, 0)) := by rw [hV5]; exact cells7_at (HR4.out w5 B5.out) _ _ _ _ _ _ _
          have e2 : V5.heap[K2]? = some (.cells #[.string ⟨#[]⟩, .bool false, .int .i64 0, .int .i64 0, .int .i64 0, .slice none 0 0, .slice none 0 0] 25 (0, 0)) := by rw [hV5]; exact set7_ne n24 _ _ _ _ _ _ _ (HR2.out w5 B5.out)
          have e3 : V5.heap[K3]? = some (.cells #[.int .i64 0, .bool false, .string ⟨#[]⟩, .string ⟨#[]⟩, .slice none 0 0, .bool false, .int .i64 0] 44 (0, 0)) := by rw [hV5]; exact set7_ne n34 _ _ _ _ _ _ _ (HR3.out w5 B5.out)
          have HV5 := Lib.hid (HO.out.far (w2 := V5) (by rw [hV5]; exact grown7 w5 K4 _ _ _ _ _ _ _) (by have := HSZ.out; have := HK.out; omega))
          have BV5 : Hid (Below w.heap.size w V5) := Lib.hid (by rw [hV5]; exact below7 (HB.out.trans (Below.mono B5.out HB.out.size)) (by have := HK.out; omega) _ _ _ _ _ _ _)
          have E2 := Lib.hid e2
          have E3 := Lib.hid e3
          clear hV5 fx fy fu x0 x1 x2 x3 x4 x5 x6 y0 y1 y2 y3 y4 y5 y6 u0 u1 u2 u3 u4 u5 u6
          have x0 : V5.cell? ⟨K4, 0, none⟩ = some (.string pp.1.name) := by simp only [World.cell?, e4]; rfl
          have x1 : V5.cell? ⟨K4, 1, none⟩ = some (.bool pp.1.dur) := by simp only [World.cell?, e4]; rfl
          have x2 : V5.cell? ⟨K4, 2, none⟩ = some (.int .i64 pp.1.depth) := by simp only [World.cell?, e4]; rfl
          have x3 : V5.cell? ⟨K4, 3, none⟩ = some (.int .i64 pp.1.seq) := by simp only [World.cell?, e4]; rfl
          have x4 : V5.cell? ⟨K4, 4, none⟩ = some (.int .i64 pp.1.tag) := by simp only [World.cell?, e4]; rfl
          have x5 : V5.cell? ⟨K4, 5, none⟩ = some (.slice r'.ia r'.is.length r'.ic) := by simp only [World.cell?, e4]; rfl
          have x6 : V5.cell? ⟨K4, 6, none⟩ = some (.slice r'.ha r'.hs.length r'.hc) := by simp only [World.cell?, e4]; rfl
          have y0 : V5.cell? ⟨K2, 0, none⟩ = some (.string ⟨#[]⟩) := by simp only [World.cell?, e2]; rfl
          have y1 : V5.cell? ⟨K2, 1, none⟩ = some (.bool false) := by simp only [World.cell?, e2]; rfl
          have y2 : V5.cell? ⟨K2, 2, none⟩ = some (.int .i64 0) := by simp only [World.cell?, e2]; rfl
          have y3 : V5.cell? ⟨K2, 3, none⟩ = some (.int .i64 0) := by simp only [World.cell?, e2]; rfl
          have y4 : V5.cell? ⟨K2, 4, none⟩ = some (.int .i64 0) := by simp only [World.cell?, e2]; rfl
          have y5 : V5.cell? ⟨K2, 5, none⟩ = some (.slice none 0 0) := by simp only [World.cell?, e2]; rfl
          have y6 : V5.cell? ⟨K2, 6, none⟩ = some (.slice none 0 0) := by simp only [World.cell?, e2]; rfl
          have u0 : V5.cell? ⟨K3, 0, none⟩ = some (.int .i64 0) := by simp only [World.cell?, e3]; rfl
          have u1 : V5.cell? ⟨K3, 1, none⟩ = some (.bool false) := by simp only [World.cell?, e3]; rfl
          have u2 : V5.cell? ⟨K3, 2, none⟩ = some (.string ⟨#[]⟩) := by simp only [World.cell?, e3]; rfl
          have u3 : V5.cell? ⟨K3, 3, none⟩ = some (.string ⟨#[]⟩) := by simp only [World.cell?, e3]; rfl
          have u4 : V5.cell? ⟨K3, 4, none⟩ = some (.slice none 0 0) := by simp only [World.cell?, e3]; rfl
          have u5 : V5.cell? ⟨K3, 5, none⟩ = some (.bool false) := by simp only [World.cell?, e3]; rfl
          have u6 : V5.cell? ⟨K3, 6, none⟩ = some (.int .i64 0) := by simp only [World.cell?, e3]; rfl
          have fy : ∀ j, V5.frozen? ⟨K2, j, none⟩ = false := fun j => frozen_of_row _ _ j _ _ e2
          have fu : ∀ j, V5.frozen? ⟨K3, j, none⟩ = false := fun j => frozen_of_row _ _ j _ _ e3
          clear e2 e3 e4
          go_wp2_with fail
          refine take_end (w := V5) (g := K2) (g2 := K3) rfl _ _ _ _ _ _ _ _ _ _ _ _ _ _ E2.out E3.out n23 rfl rfl rfl ?_
          exact ⟨r', ⟨noI, none, 0⟩, rfl, (HV5.out.qin.set (QF.ofOwn HO.out (by have := HSZ.out; have := HK.out; omega)) (grown7 _ K2 _ _ _ _ _ _ _)).set (QF.ofOwn HO.out (by have := HSZ.out; have := HK.out; omega)) (grown7 _ K3 _ _ _ _ _ _ _), rfl, (fun K hK _ => QF.ofOwn HO.out (by have := HSZ.out; omega)), below7 (below7 BV5.out (by have := HK.out; omega) _ _ _ _ _ _ _) (by have := HK.out; omega) _ _ _ _ _ _ _⟩
        · skip
          by_cases h4 : o.kind = 4
          · skip
            have hb0 : (o.kind == 0) = false := by rw [beq_eq_false_iff_ne]; exact h0
            have hb1 : (o.kind == 1) = false := by rw [beq_eq_false_iff_ne]; exact h1
            have hb2 : (o.kind == 2) = false := by rw [beq_eq_false_iff_ne]; exact h2
            have hb3 : (o.kind == 3) = false := by rw [beq_eq_false_iff_ne]; exact h3
            have hb4 : (o.kind == 4) = true := by rw [h4]; rfl
            have hpr1 : pr = ((expireR q o.n).1, 0, noI, (expireR q o.n).2) := by rw [HPR.out]; unfold doesR; rw [if_neg h0, if_neg h1, if_neg h2, if_neg h3, if_pos h4]
            obtain ⟨pp, hpp⟩ : ∃ pp, pp = expireR q o.n := ⟨_, rfl⟩
            have hc := expire_c (w := W) q r o.n HQ.out HF.out HGM.out
            rw [← hpp] at hc hpr1
            subst hpr1
            have HC := Lib.hid hc
            clear hc hpp
            go_wp2_with fail
            refine (HC.out).mono ?_
            rintro e w5 ⟨r', rfl, ho, b5⟩
            clear z0 z1 z2 z3 z4 z5 z6 o0 o1 o2 o3 o4 o5 o6 o7 o8
            have HO := Lib.hid ho
            have B5 := Lib.hid b5
            clear ho b5 HC
            have x0 := HZ4.out w5 B5.out 0 _ rfl
            have x1 := HZ4.out w5 B5.out 1 _ rfl
            have x2 := HZ4.out w5 B5.out 2 _ rfl
            have x3 := HZ4.out w5 B5.out 3 _ rfl
            have x4 := HZ4.out w5 B5.out 4 _ rfl
            have x5 := HZ4.out w5 B5.out 5 _ rfl
            have x6 := HZ4.out w5 B5.out 6 _ rfl
            have y0 := HZ2.out w5 B5.out 0 _ rfl
            have y1 := HZ2.out w5 B5.out 1 _ rfl
            have y2 := HZ2.out w5 B5.out 2 _ rfl
            have y3 := HZ2.out w5 B5.out 3 _ rfl
            have y4 := HZ2.out w5 B5.out 4 _ rfl
            have y5 := HZ2.out w5 B5.out 5 _ rfl
            have y6 := HZ2.out w5 B5.out 6 _ rfl
            have u0 := HZ3.out w5 B5.out 0 _ rfl
            have u1 := HZ3.out w5 B5.out 1 _ rfl
            have u2 := HZ3.out w5 B5.out 2 _ rfl
            have u3 := HZ3.out w5 B5.out 3 _ rfl
            have u4 := HZ3.out w5 B5.out 4 _ rfl
            have u5 := HZ3.out w5 B5.out 5 _ rfl
            have u6 := HZ3.out w5 B5.out 6 _ rfl
            have fx := HF4.out w5 B5.out
            have fy := HF2.out w5 B5.out
            have fu := HF3.out w5 B5.out
            go_upto_region 13 with fail
            obtain ⟨V5, hV5⟩ : ∃ V, V = (((((((w5.setCell ⟨K4, 0, none⟩ (.string pp.1.name)).setCell ⟨K4, 1, none⟩ (.bool pp.1.dur)).setCell ⟨K4, 2, none⟩ (.int .i64 pp.1.depth)).setCell ⟨K4, 3, none⟩ (.int .i64 pp.1.seq)).setCell ⟨K4, 4, none⟩ (.int .i64 pp.1.tag)).setCell ⟨K4, 5, none⟩ (.slice r'.ia r'.is.length r'.ic)).setCell ⟨K4, 6, none⟩ (.slice r'.ha r'.hs.length r'.hc)) := ⟨_, rfl⟩
            rw [← hV5]
            have e4 : V5.heap[K4]? = some (.cells #[.string pp.1.name, .bool pp.1.dur, .int .i64 pp.1.depth, .int .i64 pp.1.seq, .int .i64 pp.1.tag, .slice r'.ia r'.is.length r'.ic, .slice r'.ha r'.hs.length r'.hc] 25 (0, 0)) := by rw [hV5]; exact cells7_at (HR4.out w5 B5.out) _ _ _ _ _ _ _
            have e2 : V5.heap[K2]? = some (.cells #[.string ⟨#[]⟩, .bool false, .int .i64 0, .int .i64 0, .int .i64 0, .slice none 0 0, .slice none 0 0] 25 (0, 0)) := by rw [hV5]; exact set7_ne n24 _ _ _ _ _ _ _ (HR2.out w5 B5.out)
            have e3 : V5.heap[K3]? = some (.cells #[.int .i64 0, .bool false, .string ⟨#[]⟩, .string ⟨#[]⟩, .slice none 0 0, .bool false, .int .i64 0] 44 (0, 0)) := by rw [hV5]; exact set7_ne n34 _ _ _ _ _ _ _ (HR3.out w5 B5.out)
            have HV5 := Lib.hid (HO.out.far (w2 := V5) (by rw [hV5]; exact grown7 w5 K4 _ _ _ _ _ _ _) (by have := HSZ.out; have := HK.out; omega))
            have BV5 : Hid (Below w.heap.size w V5) := Lib.hid (by rw [hV5]; exact below7 (HB.out.trans (Below.mono B5.out HB.out.size)) (by have := HK.out; omega) _ _ _ _ _ _ _)
            have E2 := Lib.hid e2
            have E3 := Lib.hid e3
            clear hV5 fx fy fu x0 x1 x2 x3 x4 x5 x6 y0 y1 y2 y3 y4 y5 y6 u0 u1 u2 u3 u4 u5 u6
            have x0 : V5.cell? ⟨K4, 0, none⟩ = some (.string pp.1.name) := by simp only [World.cell?, e4]; rfl
            have x1 : V5.cell? ⟨K4, 1, none⟩ = some (.bool pp.1.dur) := by simp only [World.cell?, e4]; rfl
            have x2 : V5.cell? ⟨K4, 2, none⟩ = some (.int .i64 pp.1.depth) := by simp only [World.cell?, e4]; rfl
            have x3 : V5.cell? ⟨K4, 3, none⟩ = some (.int .i64 pp.1.seq) := by simp only [World.cell?, e4]; rfl
            have x4 : V5.cell? ⟨K4, 4, none⟩ = some (.int .i64 pp.1.tag) := by simp only [World.cell?, e4]; rfl
            have x5 : V5.cell? ⟨K4, 5, none⟩ = some (.slice r'.ia r'.is.length r'.ic) := by simp only [World.cell?, e4]; rfl
            have x6 : V5.cell? ⟨K4, 6, none⟩ = some (.slice r'.ha r'.hs.length r'.hc) := by simp only [World.cell?, e4]; rfl
            have y0 : V5.cell? ⟨K2, 0, none⟩ = some (.string ⟨#[]⟩) := by simp only [World.cell?, e2]; rfl
            have y1 : V5.cell? ⟨K2, 1, none⟩ = some (.bool false) := by simp only [World.cell?, e2]; rfl
            have y2 : V5.cell? ⟨K2, 2, none⟩ = some (.int .i64 0) := by simp only [World.cell?, e2]; rfl
            have y3 : V5.cell? ⟨K2, 3, none⟩ = some (.int .i64 0) := by simp only [World.cell?, e2]; rfl
            have y4 : V5.cell? ⟨K2, 4, none⟩ = some (.int .i64 0) := by simp only [World.cell?, e2]; rfl
            have y5 : V5.cell? ⟨K2, 5, none⟩ = some (.slice none 0 0) := by simp only [World.cell?, e2]; rfl
            have y6 : V5.cell? ⟨K2, 6, none⟩ = some (.slice none 0 0) := by simp only [World.cell?, e2]; rfl
            have u0 : V5.cell? ⟨K3, 0, none⟩ = some (.int .i64 0) := by simp only [World.cell?, e3]; rfl
            have u1 : V5.cell? ⟨K3, 1, none⟩ = some (.bool false) := by simp only [World.cell?, e3]; rfl
            have u2 : V5.cell? ⟨K3, 2, none⟩ = some (.string ⟨#[]⟩) := by simp only [World.cell?, e3]; rfl
            have u3 : V5.cell? ⟨K3, 3, none⟩ = some (.string ⟨#[]⟩) := by simp only [World.cell?, e3]; rfl
            have u4 : V5.cell? ⟨K3, 4, none⟩ = some (.slice none 0 0) := by simp only [World.cell?, e3]; rfl
            have u5 : V5.cell? ⟨K3, 5, none⟩ = some (.bool false) := by simp only [World.cell?, e3]; rfl
            have u6 : V5.cell? ⟨K3, 6, none⟩ = some (.int .i64 0) := by simp only [World.cell?, e3]; rfl
            have fy : ∀ j, V5.frozen? ⟨K2, j, none⟩ = false := fun j => frozen_of_row _ _ j _ _ e2
            have fu : ∀ j, V5.frozen? ⟨K3, j, none⟩ = false := fun j => frozen_of_row _ _ j _ _ e3
            clear e2 e3 e4
            go_wp2_with fail
            refine take_end (w := V5) (g := K2) (g2 := K3) rfl _ _ _ _ _ _ _ _ _ _ _ _ _ _ E2.out E3.out n23 rfl rfl rfl ?_
            exact ⟨r', ⟨noI, none, 0⟩, rfl, (HV5.out.qin.set (QF.ofOwn HO.out (by have := HSZ.out; have := HK.out; omega)) (grown7 _ K2 _ _ _ _ _ _ _)).set (QF.ofOwn HO.out (by have := HSZ.out; have := HK.out; omega)) (grown7 _ K3 _ _ _ _ _ _ _), rfl, (fun K hK _ => QF.ofOwn HO.out (by have := HSZ.out; omega)), below7 (below7 BV5.out (by have := HK.out; omega) _ _ _ _ _ _ _) (by have := HK.out; omega) _ _ _ _ _ _ _⟩
          · skip
            have hb0 : (o.kind == 0) = false := by rw [beq_eq_false_iff_ne]; exact h0
            have hb1 : (o.kind == 1) = false := by rw [beq_eq_false_iff_ne]; exact h1
            have hb2 : (o.kind == 2) = false := by rw [beq_eq_false_iff_ne]; exact h2
            have hb3 : (o.kind == 3) = false := by rw [beq_eq_false_iff_ne]; exact h3
            have hb4 : (o.kind == 4) = false := by rw [beq_eq_false_iff_ne]; exact h4
            have hpr1 : pr = (q, 0, noI, 0) := by rw [HPR.out]; unfold doesR; rw [if_neg h0, if_neg h1, if_neg h2, if_neg h3, if_neg h4]
            subst hpr1
            have B5 : Hid (Below W.heap.size W W) := Lib.hid (Below.refl _ _)
            have x0 := HZ4.out W B5.out 0 _ rfl
            have x1 := HZ4.out W B5.out 1 _ rfl
            have x2 := HZ4.out W B5.out 2 _ rfl
            have x3 := HZ4.out W B5.out 3 _ rfl
            have x4 := HZ4.out W B5.out 4 _ rfl
            have x5 := HZ4.out W B5.out 5 _ rfl
            have x6 := HZ4.out W B5.out 6 _ rfl
            have y0 := HZ2.out W B5.out 0 _ rfl
            have y1 := HZ2.out W B5.out 1 _ rfl
            have y2 := HZ2.out W B5.out 2 _ rfl
            have y3 := HZ2.out W B5.out 3 _ rfl
            have y4 := HZ2.out W B5.out 4 _ rfl
            have y5 := HZ2.out W B5.out 5 _ rfl
            have y6 := HZ2.out W B5.out 6 _ rfl
            have u0 := HZ3.out W B5.out 0 _ rfl
            have u1 := HZ3.out W B5.out 1 _ rfl
            have u2 := HZ3.out W B5.out 2 _ rfl
            have u3 := HZ3.out W B5.out 3 _ rfl
            have u4 := HZ3.out W B5.out 4 _ rfl
            have u5 := HZ3.out W B5.out 5 _ rfl
            have u6 := HZ3.out W B5.out 6 _ rfl
            have fx := HF4.out W B5.out
            have fy := HF2.out W B5.out
            have fu := HF3.out W B5.out
            go_wp2_with fail
            refine take_end (w := W) (g := K2) (g2 := K3) rfl _ _ _ _ _ _ _ _ _ _ _ _ _ _ (HR2.out _ B5.out) (HR3.out _ B5.out) n23 rfl rfl rfl ?_
            exact ⟨r, ⟨noI, none, 0⟩, rfl, (HQ.out.set (QF.ofIn HQ0.out (by have := HK.out; omega)) (grown7 _ K2 _ _ _ _ _ _ _)).set (QF.ofIn HQ0.out (by have := HK.out; omega)) (grown7 _ K3 _ _ _ _ _ _ _), rfl, (fun K _ h => h), below7 (below7 (HB.out.trans (Below.mono B5.out HB.out.size)) (by have := HK.out; omega) _ _ _ _ _ _ _) (by have := HK.out; omega) _ _ _ _ _ _ _⟩
theorem does_step {w : World} (q : Que) (r : QuR) (o : OpP) {A : Option Addr} {c : Nat} (hq : QuIn w q r) (hf : q.fit) (hp : RPr w (.slice A o.m.ps.length c) o.m.ps) (hm : o.m.fit) (hg : GM w) (hgd : goodQ q = true) :
    ∃ (px : Que) (pt : Int) (pe : Int), Nxt q px pe ∧ Calls Tryd.prog 24 #[.agg #[.string q.name, .bool q.dur, .int .i64 q.depth, .int .i64 q.seq, .int .i64 q.tag, .slice r.ia r.is.length r.ic, .slice r.ha r.hs.length r.hc], .agg #[.int .i64 o.kind, .int .i64 o.conn, .int .i64 o.n, .bool o.flag, .string o.m.top, .string o.m.body, .slice A o.m.ps.length c, .bool o.m.dur, .int .i64 o.m.unt]] w fun e w' => ∃ (r' : QuR) (x' : ItR), e = .returned (.tuple #[.agg #[.string px.name, .bool px.dur, .int .i64 px.depth, .int .i64 px.seq, .int .i64 px.tag, .slice r'.ia r'.is.length r'.ic, .slice r'.ha r'.hs.length r'.hc], .int .i64 pt, .agg #[.int .i64 x'.it.seq, .bool x'.it.again, .string x'.it.m.top, .string x'.it.m.body, .slice x'.pa x'.it.m.ps.length x'.pc, .bool x'.it.m.dur, .int .i64 x'.it.m.unt], .int .i64 pe]) ∧ QuIn w' px r' ∧ (∀ K, K < w.heap.size → QF K r → QF K r') ∧ Below w.heap.size w w' :=
  ⟨_, _, _, nxt_does hgd hf o hm, (does_c q r o hq hf hp hm hg).mono fun e w' ⟨r', x', h1, h2, _, h4, h5⟩ => ⟨r', x', h1, h2, h4, h5⟩⟩
end Go.Proofs.YtelhpdnclmpgoaaDoor
