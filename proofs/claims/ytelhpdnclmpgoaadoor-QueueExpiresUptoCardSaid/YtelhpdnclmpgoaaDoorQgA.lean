/- Layer 10: what an expiring leaves. (Printed by gen/qge.py.) -/
import Derived.Test.YtelhpdnclmpgoaaDoorQeZ
namespace Go.Proofs.YtelhpdnclmpgoaaDoor
open Go Go.RowKit Go.Sort
open Go.ChangeShapes Go.WideShapes Go.Deep
set_option linter.unusedSimpArgs false
set_option linter.unusedVariables false

def expP (q : Que) (now : Int) : Que := ⟨q.name, q.dur, q.depth, q.seq, q.tag, q.items.filter (fun x => !gone now x), q.held⟩
theorem goodI_filter {sq : Int} (p : Itm → Bool) : ∀ {xs : List Itm} {l l' : Int}, l' ≤ l → goodI sq l xs = true → goodI sq l' (xs.filter p) = true
  | [], l, l', _, _ => rfl
  | x :: r, l, l', hl, h => by
    simp only [goodI, Bool.and_eq_true, decide_eq_true_eq] at h
    obtain ⟨⟨⟨h1, h2⟩, h3⟩, h4⟩ := h
    cases hp : p x with
    | true =>
      rw [List.filter_cons_of_pos hp]
      simp only [goodI, Bool.and_eq_true, decide_eq_true_eq]
      exact ⟨⟨⟨by omega, h2⟩, h3⟩, goodI_filter p (Int.le_refl _) h4⟩
    | false =>
      rw [List.filter_cons_of_neg (by rw [hp]; decide)]
      exact goodI_filter p (by omega) h4
theorem goodH_sub {sq tg : Int} : ∀ {hs : List Hld} {l : Int} {s s' : List Int}, (∀ n, n ∈ s' → n ∈ s) → goodH sq tg l s hs = true → goodH sq tg l s' hs = true
  | [], l, s, s', _, _ => rfl
  | h :: r, l, s, s', hs, hg => by
    simp only [goodH, Bool.and_eq_true] at hg ⊢
    obtain ⟨⟨h1, h2⟩, h3⟩ := hg
    refine ⟨⟨h1, ?_⟩, goodH_sub (fun n hn => ?_) h3⟩
    · cases hc : s'.contains h.it.seq with
      | false => rfl
      | true =>
        have := hs _ (List.contains_iff_mem.1 hc)
        rw [List.contains_iff_mem.2 this] at h2
        exact absurd h2 (by decide)
    · rcases List.mem_append.1 hn with hn | hn
      · exact List.mem_append_left _ (hs n hn)
      · exact List.mem_append_right _ hn
theorem goodQ_exp {q : Que} (h : goodQ q = true) (now : Int) : goodQ (expP q now) = true := by
  unfold goodQ headQ at h ⊢
  simp only [Bool.and_eq_true, decide_eq_true_eq] at h ⊢
  obtain ⟨⟨h1, h2⟩, h3, h4⟩ := h
  refine ⟨⟨h1, ?_⟩, goodI_filter _ (Int.le_refl _) h3, goodH_sub (fun n hn => ?_) h4⟩
  · have : (expP q now).items.length ≤ q.items.length := List.length_filter_le _ _
    show ((expP q now).items.length : Int) + q.held.length ≤ q.depth
    omega
  · obtain ⟨x, hx, rfl⟩ := List.mem_map.1 hn
    exact List.mem_map.2 ⟨x, (List.mem_filter.1 hx).1, rfl⟩
theorem expR_eq {q : Que} (h : goodQ q = true) (now : Int) : expireR q now = (expP q now, 0) := by unfold expireR; rw [if_pos h]; rfl
theorem exp_exp {q : Que} {now later : Int} (h : now ≤ later) : expP (expP q now) later = expP q later := by
  unfold expP
  simp only [List.filter_filter]
  congr 1
  refine List.filter_congr (fun x _ => ?_)
  unfold gone
  by_cases h1 : 0 < x.m.unt
  · by_cases h2 : x.m.unt ≤ later
    · simp [h1, h2]
    · have h3 : ¬ x.m.unt ≤ now := by omega
      simp [h1, h2, h3]
  · simp [h1]
theorem exp_fit {q : Que} (h : q.fit) (now : Int) : (expP q now).fit :=
  ⟨h.name, Nat.le_trans (List.length_filter_le _ _) h.il, h.hl, fun x hx => h.im x (List.mem_filter.1 hx).1, h.hm⟩
/-- Doesn't end, or later. -/
def stayP (now : Int) (x : Itm) : Bool := x.m.unt == 0 || decide (now < x.m.unt)
theorem stay_gone {now : Int} {x : Itm} (h : 0 ≤ x.m.unt) : (!gone now x) = stayP now x := by
  unfold gone stayP
  by_cases h1 : 0 < x.m.unt
  · have e : (x.m.unt == 0) = false := by rw [beq_eq_false_iff_ne]; omega
    by_cases h2 : x.m.unt ≤ now
    · have h3 : ¬ now < x.m.unt := by omega
      simp [h1, h2, e, h3]
    · have h3 : now < x.m.unt := by omega
      simp [h1, h2, e, h3]
  · have h0 : x.m.unt = 0 := by omega
    simp [h0]
theorem good_unt {q : Que} (h : goodQ q = true) : ∀ x ∈ q.items, 0 ≤ x.m.unt := fun x hx => by
  unfold goodQ at h
  simp only [Bool.and_eq_true] at h
  have := ((goodI_all h.2.1).1 x hx).2.2
  unfold Msg.good at this
  simp only [Bool.and_eq_true, decide_eq_true_eq] at this
  exact this.1.2
theorem exp_stay {q : Que} (h : goodQ q = true) (now : Int) : (expP q now).items = q.items.filter (stayP now) :=
  List.filter_congr (fun x hx => stay_gone (good_unt h x hx))
theorem cnt_step {l : List Itm} {p : Itm → Bool} {k : Nat} {x : Itm} (hx : l[k]? = some x) : ((l.take (k + 1)).filter p).length = ((l.take k).filter p).length + (if p x = true then 1 else 0) := by
  rw [List.take_add_one, hx, List.filter_append, List.length_append]
  congr 1
  cases hp : p x <;> simp [hp]
theorem exp_step {w : World} (q : Que) (r : QuR) (now : Int) (hq : QuIn w q r) (hf : q.fit) (hg : GM w) (hgd : goodQ q = true) :
    Calls Tryd.prog 23 #[.agg #[.string q.name, .bool q.dur, .int .i64 q.depth, .int .i64 q.seq, .int .i64 q.tag, .slice r.ia r.is.length r.ic, .slice r.ha r.hs.length r.hc], .int .i64 now] w fun e w' => ∃ r' : QuR, e = .returned (.tuple #[.agg #[.string (expP q now).name, .bool (expP q now).dur, .int .i64 (expP q now).depth, .int .i64 (expP q now).seq, .int .i64 (expP q now).tag, .slice r'.ia r'.is.length r'.ic, .slice r'.ha r'.hs.length r'.hc], .int .i64 0]) ∧ QuIn w' (expP q now) r' ∧ Below w.heap.size w w' := by
  have h := expire_c q r now hq hf hg
  rw [expR_eq hgd] at h
  exact h.mono fun e w' ⟨r', h1, h2, h3⟩ => ⟨r', h1, h2.qin, h3⟩
end Go.Proofs.YtelhpdnclmpgoaaDoor
