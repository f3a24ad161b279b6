/- Texts of this claim, joined: TaP, TaW, TaS, TaX. -/
import Derived.Test.YtelhpdnclmpgoaaDoorSaP
import Derived.Test.YtelhpdnclmpgoaaDoorQdC
import Derived.Test.YtelhpdnclmpgoaaDoorSaO
import Derived.Deep.DeepCutAuto
import Derived.Deep.CutBlock
/- Layer 10: what should be there, plainly: nothing is lost, nothing comes twice. -/
namespace Go.Proofs.YtelhpdnclmpgoaaDoor
open Go Go.RowKit Go.Sort
open Go.ChangeShapes Go.WideShapes Go.Deep
set_option linter.unusedSimpArgs false
set_option linter.unusedVariables false

/-- The numbers of all that waits or is held. -/
def seqs (q : Que) : List Int := q.items.map Itm.seq ++ q.held.map (fun h => h.it.seq)
/-- A list without a number. -/
def wo (l : List Int) (n : Int) : List Int := l.filter (fun x => !(x == n))
def woH (tg cn : Int) (l : List Int) (hs : List Hld) : List Int := hs.foldl (fun a h => if (h.tag == tg && h.conn == cn) = true then wo a h.it.seq else a) l
def woI (now : Int) (l : List Int) (xs : List Itm) : List Int := xs.foldl (fun a x => if gone now x = true then wo a x.seq else a) l
theorem mem_wo {l : List Int} {n m : Int} : m ∈ wo l n ↔ m ∈ l ∧ m ≠ n := by
  unfold wo
  rw [List.mem_filter]
  simp
theorem nd_wo {l : List Int} (h : l.Nodup) (n : Int) : (wo l n).Nodup := h.sublist List.filter_sublist
theorem mem_woH {tg cn n : Int} : ∀ {hs : List Hld} {l : List Int}, n ∈ woH tg cn l hs ↔ n ∈ l ∧ ∀ h ∈ hs, (h.tag == tg && h.conn == cn) = true → n ≠ h.it.seq
  | [], l => ⟨fun h => ⟨h, fun x hx => by cases hx⟩, fun h => h.1⟩
  | h :: t, l => by
    have ih := @mem_woH tg cn n t (if (h.tag == tg && h.conn == cn) = true then wo l h.it.seq else l)
    have e : woH tg cn l (h :: t) = woH tg cn (if (h.tag == tg && h.conn == cn) = true then wo l h.it.seq else l) t := rfl
    rw [e, ih]
    cases hc : (h.tag == tg && h.conn == cn) with
    | true =>
      rw [if_pos rfl, mem_wo]
      constructor
      · rintro ⟨⟨a, b⟩, c⟩
        refine ⟨a, fun x hx hx2 => ?_⟩
        rcases List.mem_cons.1 hx with rfl | hx
        · exact b
        · exact c x hx hx2
      · rintro ⟨a, b⟩
        exact ⟨⟨a, b h (by simp) hc⟩, fun x hx hx2 => b x (List.mem_cons_of_mem _ hx) hx2⟩
    | false =>
      rw [if_neg (by decide)]
      constructor
      · rintro ⟨a, c⟩
        refine ⟨a, fun x hx hx2 => ?_⟩
        rcases List.mem_cons.1 hx with rfl | hx
        · rw [hc] at hx2; cases hx2
        · exact c x hx hx2
      · rintro ⟨a, b⟩
        exact ⟨a, fun x hx hx2 => b x (List.mem_cons_of_mem _ hx) hx2⟩
theorem nd_woH {tg cn : Int} : ∀ {hs : List Hld} {l : List Int}, l.Nodup → (woH tg cn l hs).Nodup
  | [], l, h => h
  | x :: t, l, h => by
    have e : woH tg cn l (x :: t) = woH tg cn (if (x.tag == tg && x.conn == cn) = true then wo l x.it.seq else l) t := rfl
    rw [e]
    refine nd_woH ?_
    split
    · exact nd_wo h _
    · exact h
theorem mem_woI {now n : Int} : ∀ {xs : List Itm} {l : List Int}, n ∈ woI now l xs ↔ n ∈ l ∧ ∀ x ∈ xs, gone now x = true → n ≠ x.seq
  | [], l => ⟨fun h => ⟨h, fun x hx => by cases hx⟩, fun h => h.1⟩
  | h :: t, l => by
    have ih := @mem_woI now n t (if gone now h = true then wo l h.seq else l)
    have e : woI now l (h :: t) = woI now (if gone now h = true then wo l h.seq else l) t := rfl
    rw [e, ih]
    cases hc : gone now h with
    | true =>
      rw [if_pos rfl, mem_wo]
      constructor
      · rintro ⟨⟨a, b⟩, c⟩
        refine ⟨a, fun x hx hx2 => ?_⟩
        rcases List.mem_cons.1 hx with rfl | hx
        · exact b
        · exact c x hx hx2
      · rintro ⟨a, b⟩
        exact ⟨⟨a, b h (by simp) hc⟩, fun x hx hx2 => b x (List.mem_cons_of_mem _ hx) hx2⟩
    | false =>
      rw [if_neg (by decide)]
      constructor
      · rintro ⟨a, c⟩
        refine ⟨a, fun x hx hx2 => ?_⟩
        rcases List.mem_cons.1 hx with rfl | hx
        · rw [hc] at hx2; cases hx2
        · exact c x hx hx2
      · rintro ⟨a, b⟩
        exact ⟨a, fun x hx hx2 => b x (List.mem_cons_of_mem _ hx) hx2⟩
theorem nd_woI {now : Int} : ∀ {xs : List Itm} {l : List Int}, l.Nodup → (woI now l xs).Nodup
  | [], l, h => h
  | x :: t, l, h => by
    have e : woI now l (x :: t) = woI now (if gone now x = true then wo l x.seq else l) t := rfl
    rw [e]
    refine nd_woI ?_
    split
    · exact nd_wo h _
    · exact h
theorem wo_len (l : List Int) (n : Int) : (wo l n).length ≤ l.length := List.length_filter_le _ _
theorem woH_len {tg cn : Int} : ∀ (hs : List Hld) (l : List Int), (woH tg cn l hs).length ≤ l.length
  | [], l => Nat.le_refl _
  | x :: t, l => by
    have e : woH tg cn l (x :: t) = woH tg cn (if (x.tag == tg && x.conn == cn) = true then wo l x.it.seq else l) t := rfl
    rw [e]
    refine Nat.le_trans (woH_len t _) ?_
    split
    · exact wo_len _ _
    · exact Nat.le_refl _
theorem woI_len {now : Int} : ∀ (xs : List Itm) (l : List Int), (woI now l xs).length ≤ l.length
  | [], l => Nat.le_refl _
  | x :: t, l => by
    have e : woI now l (x :: t) = woI now (if gone now x = true then wo l x.seq else l) t := rfl
    rw [e]
    refine Nat.le_trans (woI_len t _) ?_
    split
    · exact wo_len _ _
    · exact Nat.le_refl _
theorem woH_snoc {tg cn : Int} {l : List Int} {hs : List Hld} {k : Nat} {h : Hld} (hx : hs[k]? = some h) : woH tg cn l (hs.take (k + 1)) = if (h.tag == tg && h.conn == cn) = true then wo (woH tg cn l (hs.take k)) h.it.seq else woH tg cn l (hs.take k) := by
  unfold woH
  rw [List.take_add_one, hx, List.foldl_append]
  rfl
theorem woI_snoc {now : Int} {l : List Int} {xs : List Itm} {k : Nat} {x : Itm} (hx : xs[k]? = some x) : woI now l (xs.take (k + 1)) = if gone now x = true then wo (woI now l (xs.take k)) x.seq else woI now l (xs.take k) := by
  unfold woI
  rw [List.take_add_one, hx, List.foldl_append]
  rfl
theorem wo_snoc {l : List Int} {n x : Int} {k : Nat} (hx : l[k]? = some x) : wo (l.take (k + 1)) n = if (x == n) = true then wo (l.take k) n else wo (l.take k) n ++ [x] := by
  unfold wo
  rw [List.take_add_one, hx, List.filter_append]
  cases hc : (x == n) <;> simp [hc]
/-- The list has just the numbers of what is there, each once. -/
structure Ins (q : Que) (l : List Int) : Prop where
  nd : l.Nodup
  mem : ∀ n, n ∈ l ↔ n ∈ seqs q
theorem nd_of_lt : ∀ {l : List Int}, l.Pairwise (fun a b => a < b) → l.Nodup
  | _, h => h.imp (fun {a b} (h : a < b) => (by omega : a ≠ b))
theorem seqs_nd {q : Que} (hg : goodQ q = true) : (seqs q).Nodup := by
  have hC := can_iff.1 hg
  refine List.nodup_append.2 ⟨nd_of_lt (List.pairwise_map.2 hC.ip), List.pairwise_map.2 (hC.hp.imp (fun {a b} h => h.2)), fun a ha b hb e => ?_⟩
  obtain ⟨h, hh, rfl⟩ := List.mem_map.1 hb
  exact (hC.ha h hh).2.2 (e ▸ ha)
theorem Ins.perm {q : Que} {l : List Int} (h : Ins q l) (hg : goodQ q = true) : l.Perm (seqs q) := (List.perm_ext_iff_of_nodup h.nd (seqs_nd hg)).2 h.mem
theorem Ins.len {q : Que} {l : List Int} (h : Ins q l) (hg : goodQ q = true) : l.length = q.items.length + q.held.length := by
  have := (h.perm hg).length_eq
  unfold seqs at this
  rw [List.length_append, List.length_map, List.length_map] at this
  exact this
def cntI (n : Int) (l : List Itm) : Nat := (l.filter (fun x => x.seq == n)).length
def cntH (n : Int) (l : List Hld) : Nat := (l.filter (fun x => x.it.seq == n)).length
theorem cntI_snoc {n : Int} {l : List Itm} {k : Nat} {x : Itm} (hx : l[k]? = some x) : cntI n (l.take (k + 1)) = cntI n (l.take k) + if (x.seq == n) = true then 1 else 0 := by
  unfold cntI
  rw [List.take_add_one, hx, List.filter_append, List.length_append]
  cases hp : (x.seq == n) <;> simp [hp]
theorem cntH_snoc {n : Int} {l : List Hld} {k : Nat} {x : Hld} (hx : l[k]? = some x) : cntH n (l.take (k + 1)) = cntH n (l.take k) + if (x.it.seq == n) = true then 1 else 0 := by
  unfold cntH
  rw [List.take_add_one, hx, List.filter_append, List.length_append]
  cases hp : (x.it.seq == n) <;> simp [hp]
theorem cntI_le (n : Int) (l : List Itm) : cntI n l ≤ l.length := List.length_filter_le _ _
theorem cntH_le (n : Int) (l : List Hld) : cntH n l ≤ l.length := List.length_filter_le _ _
theorem cnt_map {α : Type} (f : α → Int) (n : Int) : ∀ l : List α, List.count n (l.map f) = (l.filter (fun x => f x == n)).length
  | [] => rfl
  | x :: t => by
    rw [List.map_cons, List.count_cons, cnt_map f n t]
    cases hc : (f x == n) with
    | true => rw [List.filter_cons_of_pos (by exact hc)]; simp
    | false => rw [List.filter_cons_of_neg (by rw [hc]; decide)]; simp
theorem Ins.one {q : Que} {l : List Int} (h : Ins q l) (hg : goodQ q = true) {n : Int} (hn : n ∈ l) : cntI n q.items + cntH n q.held = 1 := by
  have h1 := (seqs_nd hg).count (a := n)
  rw [if_pos ((h.mem n).1 hn)] at h1
  unfold seqs at h1
  rw [List.count_append, cnt_map, cnt_map] at h1
  exact h1
theorem ins_new (nm : ByteArray) (du : Bool) (dp : Int) : Ins ⟨nm, du, dp, 0, 0, [], []⟩ [] := ⟨List.nodup_nil, fun n => ⟨(fun h => by cases h), fun h => by cases h⟩⟩
theorem mem_seqs {q : Que} {n : Int} : n ∈ seqs q ↔ (∃ x ∈ q.items, x.seq = n) ∨ ∃ h ∈ q.held, h.it.seq = n := by
  unfold seqs
  rw [List.mem_append, List.mem_map, List.mem_map]
theorem ins_push {q : Que} {l : List Int} (h : Ins q l) (hg : goodQ q = true) {m : Msg} (he : (pushR q m).2 = 0) : (pushR q m).1.seq = q.seq + 1 ∧ Ins (pushR q m).1 (l ++ [q.seq + 1]) := by
  have hC := can_iff.1 hg
  unfold pushR at he ⊢
  split
  · rename_i h1
    rw [if_pos h1] at he
    split
    · rename_i h2
      rw [if_pos h2] at he
      split
      · refine ⟨rfl, ?_, fun n => ?_⟩
        · refine List.nodup_append.2 ⟨h.nd, List.nodup_cons.2 ⟨List.not_mem_nil, List.nodup_nil⟩, fun a ha b hb e => ?_⟩
          obtain rfl : b = q.seq + 1 := by simpa using hb
          rcases mem_seqs.1 ((h.mem a).1 ha) with ⟨x, hx, hs⟩ | ⟨x, hx, hs⟩
          · have := (hC.ia x hx).2.1; omega
          · have := (hC.ha x hx).2.1.2.2.2.2.2.2.1; omega
        · rw [List.mem_append, h.mem, mem_seqs, mem_seqs]
          constructor
          · rintro ((⟨x, hx, hs⟩ | ⟨x, hx, hs⟩) | hn)
            · exact .inl ⟨x, List.mem_append_left _ hx, hs⟩
            · exact .inr ⟨x, hx, hs⟩
            · obtain rfl : n = q.seq + 1 := by simpa using hn
              exact .inl ⟨_, List.mem_append_right _ (List.mem_singleton_self _), rfl⟩
          · rintro (⟨x, hx, hs⟩ | ⟨x, hx, hs⟩)
            · rcases List.mem_append.1 hx with hx | hx
              · exact .inl (.inl ⟨x, hx, hs⟩)
              · obtain rfl : x = ⟨q.seq + 1, false, m⟩ := by simpa using hx
                exact .inr (by simp [← hs])
            · exact .inl (.inr ⟨x, hx, hs⟩)
      · rename_i h3
        rw [if_neg h3] at he
        exact absurd he (by decide)
    · rename_i h2
      rw [if_neg h2] at he
      exact absurd he (by decide)
  · rename_i h1
    rw [if_neg h1] at he
    exact absurd he (by decide)
theorem ins_take {q : Que} {l : List Int} (h : Ins q l) (hg : goodQ q = true) {cn sb : Int} {hd : Bool} (he : (takeR q cn sb hd).2.2.2 = 0) :
    ∃ y, q.items[0]? = some y ∧ (takeR q cn sb hd).2.2.1 = y ∧ (hd = true → 0 < (takeR q cn sb hd).2.1 ∧ Ins (takeR q cn sb hd).1 l) ∧ (hd = false → (takeR q cn sb hd).2.1 = 0 ∧ Ins (takeR q cn sb hd).1 (wo l y.seq)) := by
  have hC := can_iff.1 hg
  unfold takeR at he ⊢
  split
  · rename_i h1
    rw [if_pos h1] at he
    cases hx : q.items[0]? with
    | none => rw [hx] at he; exact absurd (show (33 : Int) = 0 from he) (by decide)
    | some x =>
      obtain ⟨y, l2, hl⟩ : ∃ y l2, q.items = y :: l2 := by
        cases hi : q.items with
        | nil => rw [hi] at hx; cases hx
        | cons y l2 => exact ⟨y, l2, rfl⟩
      obtain rfl : y = x := by rw [hl] at hx; injection hx
      have hp := hC.ip
      rw [hl] at hp
      obtain ⟨p1, p2⟩ := List.pairwise_cons.1 hp
      have hei : q.items.eraseIdx 0 = l2 := by rw [hl]; rfl
      refine ⟨y, rfl, rfl, fun hh => ?_, fun hh => ?_⟩
      · subst hh
        refine ⟨by have := hC.t1; show 0 < q.tag + 1; omega, h.nd, fun n => ?_⟩
        rw [h.mem, mem_seqs, mem_seqs]
        show _ ↔ (∃ x ∈ q.items.eraseIdx 0, x.seq = n) ∨ ∃ x ∈ q.held ++ [⟨q.tag + 1, cn, sb, y⟩], x.it.seq = n
        rw [hei, hl]
        constructor
        · rintro (⟨x, hx, hs⟩ | ⟨x, hx, hs⟩)
          · rcases List.mem_cons.1 hx with rfl | hx
            · exact .inr ⟨_, List.mem_append_right _ (List.mem_singleton_self _), hs⟩
            · exact .inl ⟨x, hx, hs⟩
          · exact .inr ⟨x, List.mem_append_left _ hx, hs⟩
        · rintro (⟨x, hx, hs⟩ | ⟨x, hx, hs⟩)
          · exact .inl ⟨x, List.mem_cons_of_mem _ hx, hs⟩
          · rcases List.mem_append.1 hx with hx | hx
            · exact .inr ⟨x, hx, hs⟩
            · obtain rfl : x = ⟨q.tag + 1, cn, sb, y⟩ := by simpa using hx
              exact .inl ⟨y, by simp, hs⟩
      · subst hh
        refine ⟨rfl, nd_wo h.nd _, fun n => ?_⟩
        rw [mem_wo, h.mem, mem_seqs, mem_seqs]
        show _ ↔ (∃ x ∈ q.items.eraseIdx 0, x.seq = n) ∨ ∃ x ∈ q.held, x.it.seq = n
        rw [hei, hl]
        constructor
        · rintro ⟨⟨x, hx, hs⟩ | ⟨x, hx, hs⟩, hne⟩
          · rcases List.mem_cons.1 hx with rfl | hx
            · exact absurd hs.symm hne
            · exact .inl ⟨x, hx, hs⟩
          · exact .inr ⟨x, hx, hs⟩
        · rintro (⟨x, hx, hs⟩ | ⟨x, hx, hs⟩)
          · exact ⟨.inl ⟨x, List.mem_cons_of_mem _ hx, hs⟩, by have := p1 x hx; omega⟩
          · refine ⟨.inr ⟨x, hx, hs⟩, fun e => (hC.ha x hx).2.2 (List.mem_map.2 ⟨y, by rw [hl]; simp, by omega⟩)⟩
  · rename_i h1
    rw [if_neg h1] at he
    exact absurd he (by decide)
theorem hless_tag {l : List Hld} (h : l.Pairwise hless) : ∀ {k : Nat} {x : Hld}, l[k]? = some x → ∀ y ∈ l.eraseIdx k, y.tag ≠ x.tag := by
  induction l with
  | nil => intro k x hx; cases hx
  | cons a t ih =>
    obtain ⟨p1, p2⟩ := List.pairwise_cons.1 h
    intro k x hx y hy
    cases k with
    | zero =>
      obtain rfl : a = x := by injection hx
      have := (p1 y hy).1; omega
    | succ k =>
      have hx' : t[k]? = some x := hx
      have hy' : y ∈ a :: t.eraseIdx k := hy
      rcases List.mem_cons.1 hy' with rfl | hy'
      · have := (p1 x (List.mem_of_getElem? hx')).1; omega
      · exact ih p2 hx' y hy'
theorem hless_eq {l : List Hld} (h : l.Pairwise hless) : ∀ {a b : Hld}, a ∈ l → b ∈ l → a.it.seq = b.it.seq → a = b := by
  induction l with
  | nil => intro a b ha; cases ha
  | cons x t ih =>
    obtain ⟨p1, p2⟩ := List.pairwise_cons.1 h
    intro a b ha hb e
    rcases List.mem_cons.1 ha with h1 | h1
    · rcases List.mem_cons.1 hb with h2 | h2
      · rw [h1, h2]
      · rw [h1] at e; exact absurd e (p1 b h2).2
    · rcases List.mem_cons.1 hb with h2 | h2
      · rw [h2] at e; exact absurd e.symm (p1 a h1).2
      · exact ih p2 h1 h2 e
theorem mem_erase_or {α : Type} {l : List α} : ∀ {k : Nat} {x y : α}, l[k]? = some x → y ∈ l → y = x ∨ y ∈ l.eraseIdx k := by
  induction l with
  | nil => intro k x y hx; cases hx
  | cons a t ih =>
    intro k x y hx hy
    cases k with
    | zero =>
      obtain rfl : a = x := by injection hx
      rcases List.mem_cons.1 hy with rfl | hy
      · exact .inl rfl
      · exact .inr hy
    | succ k =>
      have hx' : t[k]? = some x := hx
      rcases List.mem_cons.1 hy with rfl | hy
      · exact .inr (show y ∈ y :: t.eraseIdx k by simp)
      · rcases ih hx' hy with h | h
        · exact .inl h
        · exact .inr (show y ∈ a :: t.eraseIdx k from List.mem_cons_of_mem _ h)
theorem ins_settle {q : Que} {l : List Int} (h : Ins q l) (hg : goodQ q = true) {cn tg : Int} {ag : Bool} (he : (settleR q cn tg ag).2 = 0) :
    (ag = true → Ins (settleR q cn tg ag).1 l) ∧ (ag = false → Ins (settleR q cn tg ag).1 (woH tg cn l q.held)) := by
  have hC := can_iff.1 hg
  unfold settleR at he ⊢
  rw [if_pos hg] at he ⊢
  cases hk : q.held.findIdx? (isP tg cn) with
  | none => rw [hk] at he; exact absurd (show (33 : Int) = 0 from he) (by decide)
  | some k =>
    rw [hk] at he
    cases hh : q.held[k]? with
    | none => simp only [hh] at he; exact absurd he (by decide)
    | some x =>
      simp only [hh] at he ⊢
      have hm : x ∈ q.held := List.mem_of_getElem? hh
      have hp : x.tag = tg ∧ x.conn = cn := by
        obtain ⟨hl, hp, -⟩ := List.findIdx?_eq_some_iff_getElem.1 hk
        have e : q.held[k] = x := by rw [List.getElem?_eq_getElem hl] at hh; injection hh
        rw [e] at hp
        unfold isP at hp
        simpa using hp
      refine ⟨fun ha => ?_, fun ha => ?_⟩
      · subst ha
        refine ⟨h.nd, fun n => ?_⟩
        rw [h.mem, mem_seqs, mem_seqs]
        show _ ↔ (∃ z ∈ insQ q.items x.it, z.seq = n) ∨ ∃ z ∈ q.held.eraseIdx k, z.it.seq = n
        constructor
        · rintro (⟨z, hz, hs⟩ | ⟨z, hz, hs⟩)
          · exact .inl ⟨z, mem_insQ.2 (.inl hz), hs⟩
          · rcases mem_erase_or hh hz with rfl | hz
            · exact .inl ⟨_, mem_insQ.2 (.inr rfl), hs⟩
            · exact .inr ⟨z, hz, hs⟩
        · rintro (⟨z, hz, hs⟩ | ⟨z, hz, hs⟩)
          · rcases mem_insQ.1 hz with hz | rfl
            · exact .inl ⟨z, hz, hs⟩
            · exact .inr ⟨x, hm, hs⟩
          · exact .inr ⟨z, mem_erase0 hz, hs⟩
      · subst ha
        refine ⟨nd_woH h.nd, fun n => ?_⟩
        rw [mem_woH, h.mem, mem_seqs, mem_seqs]
        show _ ↔ (∃ z ∈ q.items, z.seq = n) ∨ ∃ z ∈ q.held.eraseIdx k, z.it.seq = n
        constructor
        · rintro ⟨⟨z, hz, hs⟩ | ⟨z, hz, hs⟩, hne⟩
          · exact .inl ⟨z, hz, hs⟩
          · rcases mem_erase_or hh hz with rfl | hz
            · exact absurd hs.symm (hne z hm (by simp [hp.1, hp.2]))
            · exact .inr ⟨z, hz, hs⟩
        · rintro (⟨z, hz, hs⟩ | ⟨z, hz, hs⟩)
          · exact ⟨.inl ⟨z, hz, hs⟩, fun y hy _ e => (hC.ha y hy).2.2 (List.mem_map.2 ⟨z, hz, by omega⟩)⟩
          · refine ⟨.inr ⟨z, mem_erase0 hz, hs⟩, fun y hy hy2 e => ?_⟩
            obtain rfl : y = z := hless_eq hC.hp hy (mem_erase0 hz) (by omega)
            have h1 : y.tag = tg := by have : y.tag = tg ∧ y.conn = cn := by simpa using hy2
                                       exact this.1
            exact hless_tag hC.hp hh y hz (by omega)
theorem rel_seqs (cn sb n : Int) : ∀ (hs : List Hld) (I : List Itm) (H : List Hld), ((∃ x ∈ (hs.foldl (relOne cn sb) (I, H)).1, x.seq = n) ∨ ∃ h ∈ (hs.foldl (relOne cn sb) (I, H)).2, h.it.seq = n) ↔ ((∃ x ∈ I, x.seq = n) ∨ ∃ h ∈ H ++ hs, h.it.seq = n)
  | [], I, H => by simp
  | h :: t, I, H => by
    rw [List.foldl_cons]
    cases hc : (h.conn == cn && (sb == -1 || h.sub == sb)) with
    | true =>
      have e : relOne cn sb (I, H) h = (insQ I h.it, H) := by unfold relOne; rw [if_pos hc]
      rw [e, rel_seqs cn sb n t]
      constructor
      · rintro (⟨z, hz, hs⟩ | ⟨z, hz, hs⟩)
        · rcases mem_insQ.1 hz with hz | rfl
          · exact .inl ⟨z, hz, hs⟩
          · exact .inr ⟨h, by simp, hs⟩
        · rcases List.mem_append.1 hz with hz | hz
          · exact .inr ⟨z, List.mem_append_left _ hz, hs⟩
          · exact .inr ⟨z, List.mem_append_right _ (List.mem_cons_of_mem _ hz), hs⟩
      · rintro (⟨z, hz, hs⟩ | ⟨z, hz, hs⟩)
        · exact .inl ⟨z, mem_insQ.2 (.inl hz), hs⟩
        · rcases List.mem_append.1 hz with hz | hz
          · exact .inr ⟨z, List.mem_append_left _ hz, hs⟩
          · rcases List.mem_cons.1 hz with rfl | hz
            · exact .inl ⟨_, mem_insQ.2 (.inr rfl), hs⟩
            · exact .inr ⟨z, List.mem_append_right _ hz, hs⟩
    | false =>
      have e : relOne cn sb (I, H) h = (I, H ++ [h]) := by unfold relOne; rw [if_neg (by rw [hc]; decide)]
      rw [e, rel_seqs cn sb n t]
      simp
theorem ins_rel {q : Que} {l : List Int} (h : Ins q l) (hg : goodQ q = true) (cn sb : Int) : Ins (releaseR q cn sb).1 l := by
  rw [relR_eq hg]
  refine ⟨h.nd, fun n => ?_⟩
  rw [h.mem, mem_seqs, mem_seqs]
  have := rel_seqs cn sb n q.held q.items []
  rw [List.nil_append] at this
  exact this.symm
theorem ins_exp {q : Que} {l : List Int} (h : Ins q l) (hg : goodQ q = true) (now : Int) : Ins (expireR q now).1 (woI now l q.items) := by
  have hC := can_iff.1 hg
  rw [expR_eq hg]
  refine ⟨nd_woI h.nd, fun n => ?_⟩
  rw [mem_woI, h.mem, mem_seqs, mem_seqs]
  show _ ↔ (∃ z ∈ q.items.filter (fun x => !gone now x), z.seq = n) ∨ ∃ z ∈ q.held, z.it.seq = n
  constructor
  · rintro ⟨⟨z, hz, hs⟩ | ⟨z, hz, hs⟩, hne⟩
    · refine .inl ⟨z, List.mem_filter.2 ⟨hz, ?_⟩, hs⟩
      cases hc : gone now z with
      | true => exact absurd hs.symm (hne z hz hc)
      | false => rfl
    · exact .inr ⟨z, hz, hs⟩
  · rintro (⟨z, hz, hs⟩ | ⟨z, hz, hs⟩)
    · obtain ⟨hz1, hz2⟩ := List.mem_filter.1 hz
      refine ⟨.inl ⟨z, hz1, hs⟩, fun y hy hy2 e => ?_⟩
      have hyz : y = z := by
        have hnd := hC.ip
        obtain ⟨i, hi, rfl⟩ := List.getElem_of_mem hy
        obtain ⟨j, hj, rfl⟩ := List.getElem_of_mem hz1
        have hpw := List.pairwise_iff_getElem.1 hnd
        rcases Nat.lt_trichotomy i j with hij | hij | hij
        · have := hpw i j hi hj hij; omega
        · subst hij; rfl
        · have := hpw j i hj hi hij; omega
      subst hyz
      rw [hy2] at hz2
      exact absurd hz2 (by decide)
    · exact ⟨.inr ⟨z, hz, hs⟩, fun y hy _ e => (hC.ha z hz).2.2 (List.mem_map.2 ⟨y, hy, by omega⟩)⟩
end Go.Proofs.YtelhpdnclmpgoaaDoor

/- Layer 10: rows of ints; a list without a number. -/
namespace Go.Proofs.YtelhpdnclmpgoaaDoor
open Go Go.RowKit Go.Sort
open Go.ChangeShapes Go.WideShapes Go.Deep
set_option linter.unusedSimpArgs false
set_option linter.unusedVariables false

def iC (l : List Int) : List Value := l.map (fun n => .int .i64 n)
theorem iC_len (l : List Int) : (iC l).length = l.length := by unfold iC; rw [List.length_map]
theorem iC_app (l m : List Int) : iC (l ++ m) = iC l ++ iC m := by unfold iC; rw [List.map_append]
theorem iC_one (l : List Int) : ∀ y ∈ iC l, y.oneCell' = true := fun y hy => by
  obtain ⟨n, _, rfl⟩ := List.mem_map.1 hy
  rfl
theorem info_int : (Tryd.prog.info? 3).map (fun i => (i.zero, i.size, i.bytes)) = some (some (.int .i64 0), 1, 8) := by kernel_rfl
/-- v reads as these ints. -/
def RIn (w : World) (v : Value) (l : List Int) : Prop := RC w v l.length 1 (iC l)
/-- v is a row of the call's own, of these ints. -/
def OI (w : World) (base : Nat) (v : Value) (l : List Int) : Prop := w.ownsRow base 3 1 v l.length (iC l)
theorem oi_rin {w : World} {base : Nat} {v : Value} {l : List Int} (h : OI w base v l) : RIn w v l := own_rc h
theorem oi_nil (w : World) (base : Nat) : OI w base (.slice none 0 0) [] := own_nil _ _ _ _
theorem rin_one (w : World) (x : Int) : RIn (w.alloc (.cells #[.int .i64 x] 3)) (.slice (some ⟨w.heap.size, 0, none⟩) 1 1) [x] :=
  rc_new w 3 1 1 (iC [x]) rfl (by omega)
theorem rin_cell {w : World} {A : Option Addr} {n c : Nat} {l : List Int} (h : RIn w (.slice A n c) l) (j : Nat) (x : Int) (hx : l[j]? = some x) : ∃ a, A = some a ∧ w.cell? (a.add j) = some (.int .i64 x) := by
  obtain ⟨A', c', he, _, _, _, _, h5⟩ := h
  injection he with e1 e2 e3
  subst e1
  exact h5 j _ (by simp [iC, hx])
theorem rin_len {w : World} {A : Option Addr} {n c : Nat} {l : List Int} (h : RIn w (.slice A n c) l) : n = l.length := by
  obtain ⟨A', c', he, _⟩ := h
  injection he
theorem oi_lit {w : World} {base : Nat} {v : Value} {l : List Int} (h : OI w base v l) : ∃ A c, v = .slice A l.length c := rc_any' (own_rc h)
theorem oi_snoc {w : World} {base n : Nat} {v : Value} {l : List Int} {x : Int} (h : w.ownsRow base 3 1 v (l.length + 1) (iC l ++ iC [x])) : OI w base v (l ++ [x]) := by
  unfold OI
  rw [List.length_append, List.length_singleton, iC_app]
  exact h

set_option maxRecDepth 100000 in
set_option maxHeartbeats 2000000 in
theorem without_c {w : World} (l : List Int) (n : Int) {A : Option Addr} {c : Nat} (hr : RIn w (.slice A l.length c) l) (hl : l.length ≤ 1048576) :
    Calls Tryd.prog 25 #[.slice A l.length c, .int .i64 n] w fun e w' => ∃ v, e = .returned v ∧ OI w' w.heap.size v (wo l n) ∧ Below w.heap.size w w' := by
  have HR := Lib.hid hr
  have HL := Lib.hid hl
  clear hr hl
  go_enter Tryd.func25, Tryd.ntmps25
  go_wp2_with fail
  go_loopw [5, 10] (fun o i wr => ∃ (k : Nat), k ≤ l.length ∧ i = .int .i64 k ∧ Hid (OI wr w.heap.size o (wo (l.take k) n)) ∧ Hid (Below w.heap.size w wr)) (fun _ i _ => l.length - (intOf i).toNat)
  case atStart => exact ⟨0, Nat.zero_le _, rfl, Lib.hid (oi_nil _ _), Lib.hid (Below.refl _ _)⟩
  case round =>
    obtain ⟨k, hk, rfl, HO, HB⟩ := hrel
    obtain ⟨A1, c1, rfl⟩ := oi_lit HO.out
    by_cases hlt : k < l.length
    · obtain ⟨x, hx⟩ : ∃ x, l[k]? = some x := ⟨_, List.getElem?_eq_getElem hlt⟩
      obtain ⟨a, rfl, q0⟩ := rin_cell (rc_below HR.out HB.out) k x hx
      have hkI : (k : Int) < (l.length : Int) := by omega
      have HLT := Lib.hid hlt
      have HWK1 := Lib.hid (wk1 k _ hlt (by have := HL.out; omega))
      have HS := Lib.hid (wo_snoc (n := n) hx)
      clear hx hlt hk
      by_cases hxn : x = n
      · subst hxn
        have HO2 : Hid (OI wr w.heap.size (.slice A1 (wo (l.take k) x).length c1) (wo (l.take (k + 1)) x)) := Lib.hid (by rw [HS.out, if_pos (by simp)]; exact HO.out)
        clear HS
        go_wp2_with fail
        go_roundw
        case rel => exact ⟨k + 1, HLT.out, by first | rfl | (rw [HWK1.out]; rfl), HO2, HB⟩
        case measure => first | exact round_less1 HLT.out | (rw [HWK1.out]; exact round_less1 HLT.out)
      · have HS2 : Hid (wo (l.take (k + 1)) n = wo (l.take k) n ++ [x]) := Lib.hid (by rw [HS.out, if_neg (by simpa using hxn)])
        have HT : Hid ((wo (l.take k) n).length ≤ 1048576) := Lib.hid (by have := wo_len (l.take k) n; rw [List.length_take] at this; have := HL.out; omega)
        clear HS
        go_wp2_with (at_builtin; refine app_own (w0 := w) w.heap.size 55 3 1 8 _ Tryd.underlying55 info_int rfl (by decide) rfl (.tmp 17) (.tmp 19) rfl _ _ (wo (l.take k) n).length 1 (iC (wo (l.take k) n)) (iC [x]) rfl rfl (own_below HO.out ((Below.refl _ _).alloc (Nat.le_refl _) _)) (rin_one wr x) (iC_one [x]) (HB.out.alloc HB.out.size _) (by have := HT.out; omega) (by have := HT.out; omega) (by have := HB.out.size; simp; omega) ?_; intro v5 w5 o5 b5 _ _; have O5 := Lib.hid o5; have B5 := Lib.hid b5; clear o5 b5)
        go_roundw
        case rel => exact ⟨k + 1, HLT.out, by first | rfl | (rw [HWK1.out]; rfl), Lib.hid (by rw [HS2.out]; exact oi_snoc (n := 0) O5.out), B5⟩
        case measure => first | exact round_less1 HLT.out | (rw [HWK1.out]; exact round_less1 HLT.out)
    · obtain rfl : k = l.length := by omega
      have HO2 : Hid (OI wr w.heap.size (.slice A1 (wo (l.take l.length) n).length c1) (wo l n)) := Lib.hid (by have h := HO.out; rw [List.take_length] at h ⊢; exact h)
      clear hlt hk HO
      go_wp2_with fail
      go_ret
      exact ⟨_, rfl, HO2.out, HB.out⟩
end Go.Proofs.YtelhpdnclmpgoaaDoor

/- Layer 10: QueueTells: what is kept from round to round; a call of each kind, plainly. (Printed by gen/qta.py.) -/
namespace Go.Proofs.YtelhpdnclmpgoaaDoor
open Go Go.RowKit Go.Sort
open Go.ChangeShapes Go.WideShapes Go.Deep
set_option linter.unusedSimpArgs false
set_option linter.unusedVariables false

structure TS (w wr : World) (K : Nat) (q : Que) (r : QuR) (v : Value) (l : List Int) : Prop where
  row : wr.heap[K]? = some (.cells #[.string q.name, .bool q.dur, .int .i64 q.depth, .int .i64 q.seq, .int .i64 q.tag, .slice r.ia r.is.length r.ic, .slice r.ha r.hs.length r.hc] 25 (0, 0))
  qin : QuIn wr q r
  gd : goodQ q = true
  fit : q.fit
  far : QF K r
  own : OI wr (K + 1) v l
  ofar : ∀ j, v.ownBlock = some j → QF j r
  bel : Below w.heap.size w wr
  hk : w.heap.size ≤ K
variable {w wr w1 : World} {K : Nat} {q : Que} {r : QuR} {v : Value} {l : List Int}
theorem TS.cell (h : TS w wr K q r v l) (j : Nat) (u : Value) (hj : (#[.string q.name, .bool q.dur, .int .i64 q.depth, .int .i64 q.seq, .int .i64 q.tag, .slice r.ia r.is.length r.ic, .slice r.ha r.hs.length r.hc] : Array Value)[j]? = some u) : wr.cell? ⟨K, j, none⟩ = some u := by simp only [World.cell?, h.row]; exact hj
theorem TS.lt (h : TS w wr K q r v l) : K < wr.heap.size := (Array.getElem?_eq_some_iff.1 h.row).1
theorem TS.below (h : TS w wr K q r v l) (b : Below wr.heap.size wr w1) : TS w w1 K q r v l :=
  ⟨(b.block _ h.lt).trans h.row, h.qin.below b, h.gd, h.fit, h.far, own_below h.own b, h.ofar, h.bel.trans (b.mono h.bel.size), h.hk⟩
theorem TS.repl (h : TS w wr K q r v l) {v' : Value} {l' : List Int} (b : Below wr.heap.size wr w1) (o : OI w1 wr.heap.size v' l') : TS w w1 K q r v' l' :=
  ⟨(b.block _ h.lt).trans h.row, h.qin.below b, h.gd, h.fit, h.far, own_lower o h.lt, fun j hj => QF.ofIn h.qin (own_base o j hj), h.bel.trans (b.mono h.bel.size), h.hk⟩
theorem none_below {w w1 : World} (h : w.grownBy w1 none) : Below w.heap.size w w1 := ⟨h.os, h.tape, h.output, h.size, fun k hk => h.block k hk (by simp)⟩
theorem TS.app (h : TS w wr K q r v l) {v' : Value} {l' : List Int} (o : OI w1 (K + 1) v' l') (g : wr.grownBy w1 v.ownBlock) (k : v'.ownBlock = v.ownBlock ∨ v'.ownBlock = some wr.heap.size) : TS w w1 K q r v' l' := by
  have hq : QuIn w1 q r := by
    cases hv : v.ownBlock with
    | none => rw [hv] at g; exact h.qin.below (none_below g)
    | some j => rw [hv] at g; exact h.qin.set (h.ofar j hv) g
  have hne : ∀ j, v.ownBlock = some j → K + 1 ≤ j := fun j hj => own_base h.own j hj
  refine ⟨(g.block _ h.lt (fun e => by have := hne K e.symm; omega)).trans h.row, hq, h.gd, h.fit, h.far, o, fun j hj => ?_, Below.grown h.bel g h.bel.size (fun j hj => by have := hne j hj; have := h.hk; omega), h.hk⟩
  rcases k with k | k
  · exact h.ofar j (by rw [← k]; exact hj)
  · rw [k] at hj; injection hj with hj; exact hj ▸ QF.ofIn h.qin (Nat.le_refl _)
theorem TS.next (h : TS w wr K q r v l) {p : Que} {r' : QuR} (hq : QuIn wr p r') (hg : goodQ p = true) (hf : p.fit) (hF : QF K r') (ho : ∀ j, v.ownBlock = some j → QF j r') : TS w (((((((wr.setCell ⟨K, 0, none⟩ (.string p.name)).setCell ⟨K, 1, none⟩ (.bool p.dur)).setCell ⟨K, 2, none⟩ (.int .i64 p.depth)).setCell ⟨K, 3, none⟩ (.int .i64 p.seq)).setCell ⟨K, 4, none⟩ (.int .i64 p.tag)).setCell ⟨K, 5, none⟩ (.slice r'.ia r'.is.length r'.ic)).setCell ⟨K, 6, none⟩ (.slice r'.ha r'.hs.length r'.hc)) K p r' v l :=
  ⟨cells7_at h.row _ _ _ _ _ _ _, hq.set hF (grown7 _ _ _ _ _ _ _ _ _), hg, hf, hF, own_other h.own (grown7 _ _ _ _ _ _ _ _ _) (fun j hj e => by injection e with e; have := own_base h.own j hj; omega), ho, below7 h.bel h.hk _ _ _ _ _ _ _, h.hk⟩
theorem does_push {q px : Que} {pt : Int} {xi : Itm} {o : OpP} {l : List Int} (hk : o.kind = 0) (hpr : (px, pt, xi, (0 : Int)) = doesR q o) (h : Ins q l) (hg : goodQ q = true) : Ins px (l ++ [px.seq]) := by
  unfold doesR at hpr
  rw [if_pos hk] at hpr
  simp only [Prod.mk.injEq] at hpr
  obtain ⟨rfl, _, _, he⟩ := hpr
  have := ins_push h hg he.symm
  rw [this.1]
  exact this.2
theorem does_take {q px : Que} {pt : Int} {xi : Itm} {o : OpP} {l : List Int} (hk : o.kind = 1) (hpr : (px, pt, xi, (0 : Int)) = doesR q o) (h : Ins q l) (hg : goodQ q = true) :
    ∃ y, q.items[0]? = some y ∧ xi = y ∧ (o.flag = true → 0 < pt ∧ Ins px l) ∧ (o.flag = false → pt = 0 ∧ Ins px (wo l y.seq)) := by
  unfold doesR at hpr
  rw [if_neg (by omega), if_pos hk] at hpr
  have he : (takeR q o.conn o.n o.flag).2.2.2 = 0 := by rw [← hpr]
  obtain ⟨y, h1, h2, h3, h4⟩ := ins_take h hg he
  rw [← hpr] at h2 h3 h4
  exact ⟨y, h1, h2, h3, h4⟩
theorem does_settle {q px : Que} {pt : Int} {xi : Itm} {o : OpP} {l : List Int} (hk : o.kind = 2) (hpr : (px, pt, xi, (0 : Int)) = doesR q o) (h : Ins q l) (hg : goodQ q = true) : (o.flag = true → Ins px l) ∧ (o.flag = false → Ins px (woH o.n o.conn l q.held)) := by
  unfold doesR at hpr
  rw [if_neg (by omega), if_neg (by omega), if_pos hk] at hpr
  simp only [Prod.mk.injEq] at hpr
  obtain ⟨rfl, _, _, he⟩ := hpr
  exact ins_settle h hg he.symm
theorem does_expire {q px : Que} {pt : Int} {xi : Itm} {o : OpP} {l : List Int} (hk : o.kind = 4) (hpr : (px, pt, xi, (0 : Int)) = doesR q o) (h : Ins q l) (hg : goodQ q = true) : Ins px (woI o.n l q.items) := by
  unfold doesR at hpr
  rw [if_neg (by omega), if_neg (by omega), if_neg (by omega), if_neg (by omega), if_pos hk] at hpr
  simp only [Prod.mk.injEq] at hpr
  obtain ⟨rfl, _, _, he⟩ := hpr
  exact ins_exp h hg _
theorem does_rest {q px : Que} {pt : Int} {xi : Itm} {o : OpP} {l : List Int} (h0 : ¬ o.kind = 0) (h1 : ¬ o.kind = 1) (h2 : ¬ o.kind = 2) (h4 : ¬ o.kind = 4) (hpr : (px, pt, xi, (0 : Int)) = doesR q o) (h : Ins q l) (hg : goodQ q = true) : Ins px l := by
  unfold doesR at hpr
  rw [if_neg h0, if_neg h1, if_neg h2] at hpr
  split at hpr
  · simp only [Prod.mk.injEq] at hpr
    obtain ⟨rfl, _⟩ := hpr
    exact ins_rel h hg _ _
  · try rw [if_neg h4] at hpr
    simp only [Prod.mk.injEq] at hpr
    obtain ⟨rfl, _⟩ := hpr
    exact h
theorem newQ_w {dp : Int} (h : 1 ≤ dp ∧ dp ≤ 64) : newQ ⟨#[113]⟩ true dp = (⟨⟨#[113]⟩, true, dp, 0, 0, [], []⟩, 0) := by unfold newQ; rw [if_pos (by decide +kernel), if_pos h]
theorem newQ_no {dp : Int} (h : ¬ (1 ≤ dp ∧ dp ≤ 64)) : newQ ⟨#[113]⟩ true dp = (noQ, 1) := by unfold newQ; rw [if_pos (by decide +kernel), if_neg h]
theorem newQ_fit (dp : Int) : (⟨⟨#[113]⟩, true, dp, 0, 0, [], []⟩ : Que).fit := ⟨by show 1 ≤ 1048576; decide, by show 0 ≤ _; exact Nat.zero_le _, by show 0 ≤ _; exact Nat.zero_le _, (fun x hx => by cases hx), (fun x hx => by cases hx)⟩
theorem newQ_in (w : World) (dp : Int) : QuIn w ⟨⟨#[113]⟩, true, dp, 0, 0, [], []⟩ noR := ⟨⟨own_rc (own_nil w 0 44 7), fun x hx => by cases hx⟩, ⟨own_rc (own_nil w 0 46 10), fun x hx => by cases hx⟩, rfl, rfl⟩
theorem newQ_good {dp : Int} (h : 1 ≤ dp ∧ dp ≤ 64) : goodQ ⟨⟨#[113]⟩, true, dp, 0, 0, [], []⟩ = true :=
  can_iff.2 ⟨show nameB ⟨#[113]⟩ = true by decide +kernel, h.1, h.2, by show (0 : Int) ≤ 0; decide, by show (0 : Int) ≤ 1099511627776; decide, by show (0 : Int) ≤ 0; decide, by show (0 : Int) ≤ 1099511627776; decide, by show ((0 : Nat) : Int) + (0 : Nat) ≤ dp; omega, (fun x hx => by cases hx), List.Pairwise.nil, (fun x hx => by cases hx), List.Pairwise.nil⟩
end Go.Proofs.YtelhpdnclmpgoaaDoor

/- Layer 10: QueueTells. (Printed by gen/qta.py.) -/
namespace Go.Proofs.YtelhpdnclmpgoaaDoor
open Go Go.RowKit Go.Sort
open Go.ChangeShapes Go.WideShapes Go.Deep
set_option linter.unusedSimpArgs false
set_option linter.unusedVariables false

set_option maxRecDepth 100000 in
set_option maxHeartbeats 4000000 in
theorem queueTells_c {w : World} (dp : Int) (xs : List OpR) {A : Option Addr} {c : Nat} (hx : ROps w (.slice A xs.length c) xs) (hl : xs.length ≤ 1048576) (hg : GM w) :
    Calls Tryd.prog 7 #[.int .i64 dp, .slice A xs.length c] w fun e w' => e = .returned (.bool true) ∧ Below w.heap.size w w' := by
  have HWK := Lib.hid (wakes_c hg)
  have HGM := Lib.hid hg
  have HOP := Lib.hid hx
  have HL := Lib.hid hl
  clear hg hx hl
  go_enter Tryd.func7, Tryd.ntmps7
  go_wp2_with fail
  refine (HWK.out).mono ?_
  rintro e w1 ⟨rfl, b1⟩
  have B1 := Lib.hid b1
  have hnew := new_c (w := w1) ⟨#[113]⟩ true dp (by decide)
  clear b1 HWK
  by_cases hdp : 1 ≤ dp ∧ dp ≤ 64
  case neg =>
    rw [newQ_no hdp] at hnew
    have HNW := Lib.hid hnew
    clear hnew
    go_wp2_with fail
    refine (HNW.out).mono ?_
    rintro e w2 ⟨rfl, b2⟩
    go_wp2_with fail
    go_ret
    exact ⟨rfl, (B1.out.trans (b2.mono B1.out.size)).alloc (B1.out.trans (b2.mono B1.out.size)).size _⟩
  case pos =>
    rw [newQ_w hdp] at hnew
    have HNW := Lib.hid hnew
    have HDP := Lib.hid hdp
    clear hnew hdp
    go_wp2_with fail
    refine (HNW.out).mono ?_
    rintro e w2 ⟨rfl, b2⟩
    have B2 := Lib.hid (B1.out.trans (b2.mono B1.out.size))
    clear b2 HNW B1
    by_cases hbig : (200 : Int) < (xs.length : Int)
    · go_wp2_with fail
      go_ret
      exact ⟨rfl, B2.out.alloc B2.out.size _⟩
    · go_upto_region 6 with fail
      obtain ⟨W3, hW3⟩ : ∃ W3, W3 = w2.alloc (.cells #[.string ⟨#[113]⟩, .bool true, .int .i64 dp, .int .i64 0, .int .i64 0, .slice none 0 0, .slice none 0 0] 25) := ⟨_, rfl⟩
      rw [← hW3]
      have e3 : W3.heap[w2.heap.size]? = some (.cells #[.string ⟨#[113]⟩, .bool true, .int .i64 dp, .int .i64 0, .int .i64 0, .slice none 0 0, .slice none 0 0] 25 (0, 0)) := by rw [hW3]; exact heap_alloc_new w2 _
      have HS0 : Hid (TS w W3 w2.heap.size ⟨⟨#[113]⟩, true, dp, 0, 0, [], []⟩ noR (.slice none 0 0) []) := Lib.hid ⟨e3, newQ_in W3 dp, newQ_good HDP.out, newQ_fit dp, ⟨(fun h => absurd h (by decide)), (fun h => absurd h (by decide)), (fun x hx => by cases hx), (fun x hx => by cases hx)⟩, oi_nil _ _, (fun j hj => by cases hj), (by rw [hW3]; exact B2.out.alloc B2.out.size _), B2.out.size⟩
      have HI0 : Hid (Ins ⟨⟨#[113]⟩, true, dp, 0, 0, [], []⟩ []) := Lib.hid (ins_new _ _ _)
      obtain ⟨K, hK⟩ : ∃ K, K = w2.heap.size := ⟨_, rfl⟩
      rw [← hK] at HS0
      rw [← hK]
      clear hK hW3 e3 hbig B2 HDP
      go_wp2_with fail
      go_loopw [7, 42] (fun v i wr => ∃ (k : Nat) (qk : Que) (rk : QuR) (ns : List Int), k ≤ xs.length ∧ i = .int .i64 k ∧ Hid (TS w wr K qk rk v ns) ∧ Hid (Ins qk ns)) (fun _ i _ => xs.length - (intOf i).toNat)
      case atStart => exact ⟨0, _, _, _, Nat.zero_le _, rfl, HS0, HI0⟩
      case round =>
        clear HS0 HI0
        obtain ⟨k, qk, rk, ns, hk, rfl, HS, HI⟩ := hrel
        obtain ⟨A1, c1, rfl⟩ := oi_lit HS.out.own
        by_cases hlt : k < xs.length
        · obtain ⟨x, hx⟩ : ∃ x, xs[k]? = some x := ⟨_, List.getElem?_eq_getElem hlt⟩
          obtain ⟨ok, a, rfl, q0, q1, q2, q3, q4, q5, q6, q7, q8⟩ := ops_lit (HOP.out.below HS.out.bel) k x hx
          have hkI : (k : Int) < (xs.length : Int) := by omega
          have HLT := Lib.hid hlt
          have HWK1 := Lib.hid (wk1 k _ hlt (by have := HL.out; omega))
          have HOK := Lib.hid ok
          clear hx hlt hk ok
          go_upto_region 10 with fail
          obtain ⟨W7, hW7⟩ : ∃ W7, W7 = wr.alloc (.cells #[.int .i64 x.o.kind, .int .i64 x.o.conn, .int .i64 x.o.n, .bool x.o.flag, .string x.o.m.top, .string x.o.m.body, .slice x.pa x.o.m.ps.length x.pc, .bool x.o.m.dur, .int .i64 x.o.m.unt] 30) := ⟨_, rfl⟩
          rw [← hW7]
          have b7 : Below wr.heap.size wr W7 := by rw [hW7]; exact (Below.refl _ _).alloc (Nat.le_refl _) _
          have e7 : W7.heap[wr.heap.size]? = some (.cells #[.int .i64 x.o.kind, .int .i64 x.o.conn, .int .i64 x.o.n, .bool x.o.flag, .string x.o.m.top, .string x.o.m.body, .slice x.pa x.o.m.ps.length x.pc, .bool x.o.m.dur, .int .i64 x.o.m.unt] 30 (0, 0)) := by rw [hW7]; exact heap_alloc_new wr _
          have HS7 := Lib.hid (HS.out.below b7)
          have HOK7 : Hid (x.ok W7) := Lib.hid ⟨rc_below HOK.out.1 b7, HOK.out.2⟩
          obtain ⟨K1, hK1⟩ : ∃ K1, K1 = wr.heap.size := ⟨_, rfl⟩
          have h1K : K < K1 := by rw [hK1]; exact HS.out.lt
          have HK1 := Lib.hid h1K
          rw [← hK1] at e7
          rw [← hK1]
          have HE7 := Lib.hid e7
          clear hW7 b7 e7 HS HOK h1K hK1 q0 q1 q2 q3 q4 q5 q6 q7 q8
          have o0 : W7.cell? ⟨K1, 0, none⟩ = some (.int .i64 x.o.kind) := by simp only [World.cell?, HE7.out]; rfl
          have o1 : W7.cell? ⟨K1, 1, none⟩ = some (.int .i64 x.o.conn) := by simp only [World.cell?, HE7.out]; rfl
          have o2 : W7.cell? ⟨K1, 2, none⟩ = some (.int .i64 x.o.n) := by simp only [World.cell?, HE7.out]; rfl
          have o3 : W7.cell? ⟨K1, 3, none⟩ = some (.bool x.o.flag) := by simp only [World.cell?, HE7.out]; rfl
          have o4 : W7.cell? ⟨K1, 4, none⟩ = some (.string x.o.m.top) := by simp only [World.cell?, HE7.out]; rfl
          have o5 : W7.cell? ⟨K1, 5, none⟩ = some (.string x.o.m.body) := by simp only [World.cell?, HE7.out]; rfl
          have o6 : W7.cell? ⟨K1, 6, none⟩ = some (.slice x.pa x.o.m.ps.length x.pc) := by simp only [World.cell?, HE7.out]; rfl
          have o7 : W7.cell? ⟨K1, 7, none⟩ = some (.bool x.o.m.dur) := by simp only [World.cell?, HE7.out]; rfl
          have o8 : W7.cell? ⟨K1, 8, none⟩ = some (.int .i64 x.o.m.unt) := by simp only [World.cell?, HE7.out]; rfl
          by_cases hps : (1000 : Int) < (x.o.m.ps.length : Int)
          · go_wp2_with fail
            go_ret
            exact ⟨rfl, HS7.out.bel⟩
          · skip
            have z0 := HS7.out.cell 0 _ rfl
            have z1 := HS7.out.cell 1 _ rfl
            have z2 := HS7.out.cell 2 _ rfl
            have z3 := HS7.out.cell 3 _ rfl
            have z4 := HS7.out.cell 4 _ rfl
            have z5 := HS7.out.cell 5 _ rfl
            have z6 := HS7.out.cell 6 _ rfl
            go_upto_region 13 with fail
            clear hps o0 o1 o2 o3 o4 o5 o6 o7 o8 z0 z1 z2 z3 z4 z5 z6
            obtain ⟨W8, hW8⟩ : ∃ W8, W8 = W7.alloc (.cells #[.string qk.name, .bool qk.dur, .int .i64 qk.depth, .int .i64 qk.seq, .int .i64 qk.tag, .slice rk.ia rk.is.length rk.ic, .slice rk.ha rk.hs.length rk.hc] 25) := ⟨_, rfl⟩
            rw [← hW8]
            have b8 : Below W7.heap.size W7 W8 := by rw [hW8]; exact (Below.refl _ _).alloc (Nat.le_refl _) _
            have e8 : W8.heap[W7.heap.size]? = some (.cells #[.string qk.name, .bool qk.dur, .int .i64 qk.depth, .int .i64 qk.seq, .int .i64 qk.tag, .slice rk.ia rk.is.length rk.ic, .slice rk.ha rk.hs.length rk.hc] 25 (0, 0)) := by rw [hW8]; exact heap_alloc_new W7 _
            have HS8 := Lib.hid (HS7.out.below b8)
            have HK2 : Hid (K1 < W7.heap.size) := Lib.hid (Array.getElem?_eq_some_iff.1 HE7.out).1
            have HE7 := Lib.hid ((b8.block _ HK2.out).trans HE7.out)
            have HOK8 : Hid (x.ok W8) := Lib.hid ⟨rc_below HOK7.out.1 b8, HOK7.out.2⟩
            obtain ⟨K2, hK2⟩ : ∃ K2, K2 = W7.heap.size := ⟨_, rfl⟩
            rw [← hK2] at e8 HK2
            rw [← hK2]
            have HE8 := Lib.hid e8
            have hdc := does_c (w := W8) qk rk x.o (A := x.pa) (c := x.pc) HS8.out.qin HS8.out.fit HOK8.out.1 HOK8.out.2 (HGM.out.below HS8.out.bel)
            have hnx := nxt_does HS8.out.gd HS8.out.fit x.o HOK8.out.2
            obtain ⟨⟨px, pt, xi, pe⟩, hpr⟩ : ∃ pr, pr = doesR qk x.o := ⟨_, rfl⟩
            rw [← hpr] at hdc hnx
            have HDS := Lib.hid hdc
            have HNX := Lib.hid hnx
            have HPR := Lib.hid hpr
            clear hdc hnx hpr hK2 e8 b8 hW8 HS7 HOK7 HOK8
            have o0 : W8.cell? ⟨K1, 0, none⟩ = some (.int .i64 x.o.kind) := by simp only [World.cell?, HE7.out]; rfl
            have o1 : W8.cell? ⟨K1, 1, none⟩ = some (.int .i64 x.o.conn) := by simp only [World.cell?, HE7.out]; rfl
            have o2 : W8.cell? ⟨K1, 2, none⟩ = some (.int .i64 x.o.n) := by simp only [World.cell?, HE7.out]; rfl
            have o3 : W8.cell? ⟨K1, 3, none⟩ = some (.bool x.o.flag) := by simp only [World.cell?, HE7.out]; rfl
            have o4 : W8.cell? ⟨K1, 4, none⟩ = some (.string x.o.m.top) := by simp only [World.cell?, HE7.out]; rfl
            have o5 : W8.cell? ⟨K1, 5, none⟩ = some (.string x.o.m.body) := by simp only [World.cell?, HE7.out]; rfl
            have o6 : W8.cell? ⟨K1, 6, none⟩ = some (.slice x.pa x.o.m.ps.length x.pc) := by simp only [World.cell?, HE7.out]; rfl
            have o7 : W8.cell? ⟨K1, 7, none⟩ = some (.bool x.o.m.dur) := by simp only [World.cell?, HE7.out]; rfl
            have o8 : W8.cell? ⟨K1, 8, none⟩ = some (.int .i64 x.o.m.unt) := by simp only [World.cell?, HE7.out]; rfl
            have z0 := HS8.out.cell 0 _ rfl
            have z1 := HS8.out.cell 1 _ rfl
            have z2 := HS8.out.cell 2 _ rfl
            have z3 := HS8.out.cell 3 _ rfl
            have z4 := HS8.out.cell 4 _ rfl
            have z5 := HS8.out.cell 5 _ rfl
            have z6 := HS8.out.cell 6 _ rfl
            go_wp2_with fail
            refine (HDS.out).mono ?_
            rintro e w8 ⟨r', x', rfl, hq8, hxi, hfar, b8⟩
            clear o0 o1 o2 o3 o4 o5 o6 o7 o8 z0 z1 z2 z3 z4 z5 z6 HDS
            have HS9 := Lib.hid (HS8.out.below b8)
            have HQ9 := Lib.hid hq8
            have HFR := Lib.hid (fun (k : Nat) (hk : k < W8.heap.size) => hfar k hk)
            have HXI := Lib.hid hxi
            have HE7 := Lib.hid ((b8.block _ (Array.getElem?_eq_some_iff.1 HE7.out).1).trans HE7.out)
            have HE8 := Lib.hid ((b8.block _ (Array.getElem?_eq_some_iff.1 HE8.out).1).trans HE8.out)
            have HQK : Hid (QuIn w8 qk rk) := Lib.hid HS9.out.qin
            have HS8L : Hid (∀ j, (Value.slice A1 ns.length c1).ownBlock = some j → j < W8.heap.size) := Lib.hid (fun j hj => own_lt' HS8.out.own hj)
            have HK8 : Hid (K < W8.heap.size) := Lib.hid HS8.out.lt
            clear hq8 hfar hxi b8 HS8
            have n1 : ¬ w8.heap.size = w8.heap.size + 1 := by omega
            have n2 : ¬ w8.heap.size + 1 = w8.heap.size := by omega
            go_upto_region 14 with fail
            obtain ⟨V, hV⟩ : ∃ V, V = ((w8.alloc (.cells #[.string px.name, .bool px.dur, .int .i64 px.depth, .int .i64 px.seq, .int .i64 px.tag, .slice r'.ia r'.is.length r'.ic, .slice r'.ha r'.hs.length r'.hc] 25)).alloc (.cells #[.int .i64 x'.it.seq, .bool x'.it.again, .string x'.it.m.top, .string x'.it.m.body, .slice x'.pa x'.it.m.ps.length x'.pc, .bool x'.it.m.dur, .int .i64 x'.it.m.unt] 44)) := ⟨_, rfl⟩
            rw [← hV]
            have bV : Below w8.heap.size w8 V := by rw [hV]; exact ((Below.refl _ _).alloc (Nat.le_refl _) _).alloc (by simp) _
            have eV : V.heap[w8.heap.size]? = some (.cells #[.string px.name, .bool px.dur, .int .i64 px.depth, .int .i64 px.seq, .int .i64 px.tag, .slice r'.ia r'.is.length r'.ic, .slice r'.ha r'.hs.length r'.hc] 25 (0, 0)) := by rw [hV]; exact alloc_keep _ (heap_alloc_new w8 _)
            have iV : V.heap[w8.heap.size + 1]? = some (.cells #[.int .i64 x'.it.seq, .bool x'.it.again, .string x'.it.m.top, .string x'.it.m.body, .slice x'.pa x'.it.m.ps.length x'.pc, .bool x'.it.m.dur, .int .i64 x'.it.m.unt] 44 (0, 0)) := by rw [hV]; exact alloc_at _ _ _ (by simp)
            have HSV := Lib.hid (HS9.out.below bV)
            have HQV := Lib.hid (HQ9.out.below bV)
            have HE7 := Lib.hid ((bV.block _ (Array.getElem?_eq_some_iff.1 HE7.out).1).trans HE7.out)
            have HE8 := Lib.hid ((bV.block _ (Array.getElem?_eq_some_iff.1 HE8.out).1).trans HE8.out)
            obtain ⟨K3, hK3⟩ : ∃ K3, K3 = w8.heap.size := ⟨_, rfl⟩
            have h3K : K < K3 := by rw [hK3]; exact HS9.out.lt
            have HK3 := Lib.hid h3K
            rw [← hK3] at eV iV
            rw [← hK3]
            have HEV := Lib.hid eV
            have HIV := Lib.hid iV
            clear hV bV n1 n2 HS9 HQ9 HQK eV iV hK3 h3K
            by_cases he : pe = 0
            case neg =>
              have heb : (pe == 0) = false := by rw [beq_eq_false_iff_ne]; exact he
              have heb2 : (pe != 0) = true := by rw [bne, heb]; rfl
              go_wp2_with fail
              go_roundw
              case rel => exact ⟨k + 1, qk, rk, ns, HLT.out, by first | rfl | (rw [HWK1.out]; rfl), HSV, HI⟩
              case measure => first | exact round_less1 HLT.out | (rw [HWK1.out]; exact round_less1 HLT.out)
            case pos =>
              subst he
              obtain ⟨hgx, -, -, -, -, hfx⟩ := HNX.out.ok rfl
              have HSN := Lib.hid (HSV.out.next HQV.out hgx hfx (HFR.out K HK8.out HSV.out.far) (fun j hj => HFR.out j (HS8L.out j hj) (HSV.out.ofar j hj)))
              clear hgx hfx
              have x0 : V.cell? ⟨K3, 0, none⟩ = some (.string px.name) := by simp only [World.cell?, HEV.out]; rfl
              have x1 : V.cell? ⟨K3, 1, none⟩ = some (.bool px.dur) := by simp only [World.cell?, HEV.out]; rfl
              have x2 : V.cell? ⟨K3, 2, none⟩ = some (.int .i64 px.depth) := by simp only [World.cell?, HEV.out]; rfl
              have x3 : V.cell? ⟨K3, 3, none⟩ = some (.int .i64 px.seq) := by simp only [World.cell?, HEV.out]; rfl
              have x4 : V.cell? ⟨K3, 4, none⟩ = some (.int .i64 px.tag) := by simp only [World.cell?, HEV.out]; rfl
              have x5 : V.cell? ⟨K3, 5, none⟩ = some (.slice r'.ia r'.is.length r'.ic) := by simp only [World.cell?, HEV.out]; rfl
              have x6 : V.cell? ⟨K3, 6, none⟩ = some (.slice r'.ha r'.hs.length r'.hc) := by simp only [World.cell?, HEV.out]; rfl
              have z0 := HSV.out.cell 0 _ rfl
              have z1 := HSV.out.cell 1 _ rfl
              have z2 := HSV.out.cell 2 _ rfl
              have z3 := HSV.out.cell 3 _ rfl
              have z4 := HSV.out.cell 4 _ rfl
              have z5 := HSV.out.cell 5 _ rfl
              have z6 := HSV.out.cell 6 _ rfl
              have fz : ∀ j, V.frozen? ⟨K, j, none⟩ = false := fun j => frozen_of_row _ _ j _ _ HSV.out.row
              have n3 : ¬ K = K3 := by have := HK3.out; omega
              have n4 : ¬ K3 = K := by have := HK3.out; omega
              go_upto_region 16 with fail
              clear n3 n4 fz x0 x1 x2 x3 x4 x5 x6 z0 z1 z2 z3 z4 z5 z6
              obtain ⟨V2, hV2⟩ : ∃ V2, V2 = (((((((V.setCell ⟨K, 0, none⟩ (.string px.name)).setCell ⟨K, 1, none⟩ (.bool px.dur)).setCell ⟨K, 2, none⟩ (.int .i64 px.depth)).setCell ⟨K, 3, none⟩ (.int .i64 px.seq)).setCell ⟨K, 4, none⟩ (.int .i64 px.tag)).setCell ⟨K, 5, none⟩ (.slice r'.ia r'.is.length r'.ic)).setCell ⟨K, 6, none⟩ (.slice r'.ha r'.hs.length r'.hc)) := ⟨_, rfl⟩
              rw [← hV2] at HSN
              rw [← hV2]
              have gV : V.grownBy V2 (some K) := by rw [hV2]; exact grown7 _ _ _ _ _ _ _ _ _
              have HE7 := Lib.hid ((gV.block _ (Array.getElem?_eq_some_iff.1 HE7.out).1 (fun e => by injection e with e; have := HK1.out; omega)).trans HE7.out)
              have HE8 := Lib.hid ((gV.block _ (Array.getElem?_eq_some_iff.1 HE8.out).1 (fun e => by injection e with e; have := HK1.out; have := HK2.out; omega)).trans HE8.out)
              have HIV := Lib.hid ((gV.block _ (Array.getElem?_eq_some_iff.1 HIV.out).1 (fun e => by injection e with e; have := HK3.out; omega)).trans HIV.out)
              have HQK : Hid (QuIn V2 qk rk) := Lib.hid (HSV.out.qin.set HSV.out.far gV)
              have HGK := Lib.hid HSV.out.gd
              clear hV2 gV HSV HQV HEV HFR HNX
              have o0 : V2.cell? ⟨K1, 0, none⟩ = some (.int .i64 x.o.kind) := by simp only [World.cell?, HE7.out]; rfl
              have o1 : V2.cell? ⟨K1, 1, none⟩ = some (.int .i64 x.o.conn) := by simp only [World.cell?, HE7.out]; rfl
              have o2 : V2.cell? ⟨K1, 2, none⟩ = some (.int .i64 x.o.n) := by simp only [World.cell?, HE7.out]; rfl
              have o3 : V2.cell? ⟨K1, 3, none⟩ = some (.bool x.o.flag) := by simp only [World.cell?, HE7.out]; rfl
              have o4 : V2.cell? ⟨K1, 4, none⟩ = some (.string x.o.m.top) := by simp only [World.cell?, HE7.out]; rfl
              have o5 : V2.cell? ⟨K1, 5, none⟩ = some (.string x.o.m.body) := by simp only [World.cell?, HE7.out]; rfl
              have o6 : V2.cell? ⟨K1, 6, none⟩ = some (.slice x.pa x.o.m.ps.length x.pc) := by simp only [World.cell?, HE7.out]; rfl
              have o7 : V2.cell? ⟨K1, 7, none⟩ = some (.bool x.o.m.dur) := by simp only [World.cell?, HE7.out]; rfl
              have o8 : V2.cell? ⟨K1, 8, none⟩ = some (.int .i64 x.o.m.unt) := by simp only [World.cell?, HE7.out]; rfl
              have HOC : Hid (∀ w1, Below V2.heap.size V2 w1 → ∀ j u, (#[.int .i64 x.o.kind, .int .i64 x.o.conn, .int .i64 x.o.n, .bool x.o.flag, .string x.o.m.top, .string x.o.m.body, .slice x.pa x.o.m.ps.length x.pc, .bool x.o.m.dur, .int .i64 x.o.m.unt] : Array Value)[j]? = some u → w1.cell? ⟨K1, j, none⟩ = some u) := Lib.hid (fun w1 b j u hj => by have h := (b.block _ (Array.getElem?_eq_some_iff.1 HE7.out).1).trans HE7.out; simp only [World.cell?, h]; exact hj)
              have H64 : Hid (ns.length ≤ 64) := Lib.hid (by have := HI.out.len HGK.out; have := goodQ_len HGK.out; omega)
              go_upto_block 2 with fail
              go_cut [7, 16, 18] from 65 to 157 (fun v _ _ wx => ∃ (ns' : List Int) (A' : Option Addr) (c' : Nat), v = .slice A' ns'.length c' ∧ Hid (TS w wx K px r' (.slice A' ns'.length c') ns') ∧ Hid (Ins px ns'))
              case first =>
                have HQI : Hid (QuIn V2 qk rk) := HQK
                go_upto_if 65 with fail
                clear o0 o1 o2 o3 o4 o5 o6 o7 o8
                cases e0 : (x.o.kind == 0) with
                | true =>
                  have HP := Lib.hid (does_push (eq_of_beq e0) HPR.out HI.out HGK.out)
                  -- @A0 {
                  have k3 := HSN.out.cell 3 _ rfl
                  go_wp2_with (at_builtin; refine app_own (w0 := V2) (K + 1) 55 3 1 8 _ Tryd.underlying55 info_int rfl (by decide) rfl (.tmp 67) (.tmp 70) rfl _ _ ns.length 1 (iC ns) (iC [px.seq]) rfl rfl (own_below HSN.out.own ((Below.refl _ _).alloc (Nat.le_refl _) _)) (rin_one V2 px.seq) (iC_one [px.seq]) ((Below.refl _ _).alloc HSN.out.lt _) (by have := H64.out; omega) (by have := H64.out; omega) (Nat.le_trans HSN.out.lt (by simp)) ?_; intro v5 w5 o5 b5 g5 k5; obtain ⟨A5, c5, rfl⟩ := rc_any' (own_rc o5); have O5 := Lib.hid (oi_snoc (n := 0) o5); have G5 := Lib.hid g5; have K5 := Lib.hid k5; clear o5 b5 g5 k5)
                  go_meet
                  have hl : (ns ++ [px.seq]).length = ns.length + 1 := by simp
                  exact ⟨ns ++ [px.seq], A5, c5, by rw [hl], Lib.hid (by rw [hl]; exact (HSN.out.below ((Below.refl _ _).alloc (Nat.le_refl _) _)).app O5.out G5.out K5.out), HP⟩
                  -- @A0 }
                | false =>
                 cases e1 : (x.o.kind == 1) with
                 | true =>
                    -- @A1 {
                    obtain ⟨y, hy, hxy, ht, hfl⟩ := does_take (eq_of_beq e1) HPR.out HI.out HGK.out
                    obtain ⟨y', hy1, hy2⟩ : ∃ y', rk.is[0]? = some y' ∧ y'.it = y := by
                      rw [← HQI.out.ip, List.getElem?_map] at hy
                      cases h : rk.is[0]? with
                      | none => rw [h] at hy; cases hy
                      | some z => rw [h] at hy; injection hy with hy; exact ⟨z, rfl, hy⟩
                    obtain ⟨-, a0, ha0, p0, -⟩ := items_lit HQI.out.items 0 y' hy1
                    have hn0 : (0 : Int) < (rk.is.length : Int) := by have := (List.getElem?_eq_some_iff.1 hy1).1; omega
                    have hn1 : ((rk.is.length : Int) == 0) = false := by rw [beq_eq_false_iff_ne]; omega
                    have hxs : x'.it.seq = y.seq := by rw [HXI.out, hxy]
                    have i0 : V2.cell? ⟨K3 + 1, 0, none⟩ = some (.int .i64 y.seq) := by simp only [World.cell?, HIV.out]; rw [← hxs]; rfl
                    have t5 : V2.cell? ⟨K2, 5, none⟩ = some (.slice (some a0) rk.is.length rk.ic) := by simp only [World.cell?, HE8.out]; rw [ha0]; rfl
                    rw [hy2] at p0
                    have p0' : V2.cell? a0 = some (.int .i64 y.seq) := by rw [Nat.zero_mul] at p0; exact p0
                    have HT := Lib.hid ht
                    have HFL := Lib.hid hfl
                    clear hy hxy ht hfl hy1 hy2 ha0 hxs
                    have u3 := HOC.out V2 (Below.refl _ _) 3 _ rfl
                    rcases Bool.eq_false_or_eq_true x.o.flag with hflag | hflag
                    · rw [hflag] at u3
                      have hpt : 0 < pt := (HT.out hflag).1
                      have HIN := Lib.hid (HT.out hflag).2
                      clear hflag
                      have u3' : V2.drew.cell? ⟨K1, 3, none⟩ = _ := u3
                      have i0' : V2.drew.cell? ⟨K3 + 1, 0, none⟩ = _ := i0
                      have t5' : V2.drew.cell? ⟨K2, 5, none⟩ = _ := t5
                      have p0d : V2.drew.cell? (a0.add (0 * 7)) = _ := p0
                      have p0e : V2.drew.cell? a0 = _ := p0'
                      go_upto_region 20 with fail
                      go_quiet (fail)
                      go_wp2_with fail
                      go_meet
                      exact ⟨ns, A1, c1, rfl, Lib.hid (HSN.out.below (below_drewN _ _)), HIN⟩
                    · rw [hflag] at u3
                      have hpt : ¬ 0 < pt := by rw [(HFL.out hflag).1]; omega
                      have HIN := Lib.hid (HFL.out hflag).2
                      have HWO := Lib.hid (fun w1 (b : Below V2.heap.size V2 w1) => without_c (w := w1) ns y.seq (rc_below (oi_rin HSN.out.own) b) (by have := H64.out; omega))
                      clear hflag
                      have u3' : V2.drew.cell? ⟨K1, 3, none⟩ = _ := u3
                      have i0' : V2.drew.cell? ⟨K3 + 1, 0, none⟩ = _ := i0
                      have t5' : V2.drew.cell? ⟨K2, 5, none⟩ = _ := t5
                      have p0d : V2.drew.cell? (a0.add (0 * 7)) = _ := p0
                      have p0e : V2.drew.cell? a0 = _ := p0'
                      go_upto_region 20 with fail
                      go_quiet (fail)
                      have u3n : ∀ n, (V2.drewN n).cell? ⟨K1, 3, none⟩ = _ := fun n => u3
                      have i0n : ∀ n, (V2.drewN n).cell? ⟨K3 + 1, 0, none⟩ = _ := fun n => i0
                      go_wp2_with fail
                      refine (HWO.out _ (by first | exact Below.refl _ _ | exact (Below.refl _ _).drew | exact below_drewN _ _)).mono ?_
                      rintro e w9 ⟨v9, rfl, o9, b9⟩
                      obtain ⟨A9, c9, rfl⟩ := oi_lit o9
                      have HS9 : Hid (TS w w9 K px r' (.slice A9 (wo ns y.seq).length c9) (wo ns y.seq)) := Lib.hid (TS.repl (HSN.out.below (by first | exact Below.refl _ _ | exact (Below.refl _ _).drew | exact below_drewN _ _)) b9 o9)
                      clear o9 b9
                      go_wp2_with fail
                      go_meet
                      exact ⟨_, _, _, rfl, HS9, HIN⟩
                    -- @A1 }
                 | false =>
                  cases e2 : (x.o.kind == 2) with
                  | true =>
                      -- @A2 {
                      have HST := Lib.hid (does_settle (eq_of_beq e2) HPR.out HI.out HGK.out)
                      have u3 := HOC.out V2 (Below.refl _ _) 3 _ rfl
                      rcases Bool.eq_false_or_eq_true x.o.flag with hflag | hflag
                      · rw [hflag] at u3
                        have HIN := Lib.hid (HST.out.1 hflag)
                        clear hflag
                        go_wp2_with fail
                        go_meet
                        exact ⟨ns, A1, c1, rfl, HSN, HIN⟩
                      · rw [hflag] at u3
                        have HIN := Lib.hid (HST.out.2 hflag)
                        clear hflag
                        obtain ⟨ha, hha⟩ : ∃ ha, ha = rk.ha := ⟨_, rfl⟩
                        have HHH : Hid (RHl V2 (.slice ha rk.hs.length rk.hc) rk.hs) := Lib.hid (by rw [hha]; exact HQI.out.held)
                        have t6 : V2.cell? ⟨K2, 6, none⟩ = some (.slice ha rk.hs.length rk.hc) := by simp only [World.cell?, HE8.out]; rw [hha]; rfl
                        have hlh : qk.held.length = rk.hs.length := by rw [← HQI.out.hp, List.length_map]
                        have HLH := Lib.hid hlh
                        have HH64 : Hid (rk.hs.length ≤ 64) := Lib.hid (by have := goodQ_len HGK.out; omega)
                        have HHP := Lib.hid HQI.out.hp
                        clear hha hlh
                        go_wp2_with fail
                        clear t6 u3
                        go_loopw [7, 16, 110] (fun v _ i wx => ∃ (j : Nat) (A' : Option Addr) (c' : Nat), j ≤ rk.hs.length ∧ i = .int .i64 j ∧ v = .slice A' (woH x.o.n x.o.conn ns (qk.held.take j)).length c' ∧ Hid (TS w wx K px r' (.slice A' (woH x.o.n x.o.conn ns (qk.held.take j)).length c') (woH x.o.n x.o.conn ns (qk.held.take j))) ∧ Hid (Below V2.heap.size V2 wx)) (fun _ _ i _ => rk.hs.length - (intOf i).toNat)
                        case atStart => exact ⟨0, A1, c1, Nat.zero_le _, rfl, rfl, HSN, Lib.hid (Below.refl _ _)⟩
                        case round =>
                          obtain ⟨j, A2, c2, hj, rfl, rfl, HS2, HB2⟩ := hrel
                          by_cases hjl : j < rk.hs.length
                          · obtain ⟨z, hz⟩ : ∃ z, rk.hs[j]? = some z := ⟨_, List.getElem?_eq_getElem hjl⟩
                            obtain ⟨-, a1, rfl, q0, q1, q2, q3, q4, q5, q6, q7, q8, q9⟩ := held_lit (HHH.out.below HB2.out) j z hz
                            have hjI : (j : Int) < (rk.hs.length : Int) := by omega
                            have HJT := Lib.hid hjl
                            have HWK2 := Lib.hid (wk1 j _ hjl (by have := HH64.out; omega))
                            have hqz : qk.held[j]? = some z.pl := by rw [← HHP.out, List.getElem?_map, hz]; rfl
                            have HSC := Lib.hid (woH_snoc (tg := x.o.n) (cn := x.o.conn) (l := ns) hqz)
                            obtain ⟨m1, hm1⟩ : ∃ m1, m1 = woH x.o.n x.o.conn ns (qk.held.take j) := ⟨_, rfl⟩
                            have HM1 : Hid (m1.length ≤ 64) := Lib.hid (by rw [hm1]; exact Nat.le_trans (woH_len _ _) H64.out)
                            rw [← hm1] at HS2 HSC ⊢
                            have HBJ : Hid (∀ o, Below V2.heap.size V2 (wr.alloc o)) := Lib.hid (fun o => HB2.out.alloc HB2.out.size o)
                            have HSJ : Hid (∀ o, TS w (wr.alloc o) K px r' (.slice A2 m1.length c2) m1) := Lib.hid (fun o => HS2.out.below ((Below.refl _ _).alloc (Nat.le_refl _) o))
                            have g2 : ∀ o, (wr.alloc o).cell? ⟨K1, 2, none⟩ = some (.int .i64 x.o.n) := fun o => HOC.out _ (HBJ.out o) 2 _ rfl
                            have g1 : ∀ o, (wr.alloc o).cell? ⟨K1, 1, none⟩ = some (.int .i64 x.o.conn) := fun o => HOC.out _ (HBJ.out o) 1 _ rfl
                            clear hz hjl hj hqz hm1
                            cases htg : (z.tag == x.o.n) with
                            | false =>
                              have HM2 : Hid (woH x.o.n x.o.conn ns (qk.held.take (j + 1)) = m1) := Lib.hid (by rw [HSC.out, if_neg (by show ¬ (z.tag == x.o.n && z.conn == x.o.conn) = true; rw [htg]; simp)])
                              go_wp2_with fail
                              go_roundw
                              case rel => exact ⟨j + 1, A2, c2, HJT.out, by first | rfl | (rw [HWK2.out]; rfl), by rw [HM2.out], Lib.hid (by rw [HM2.out]; exact HSJ.out _), Lib.hid (HBJ.out _)⟩
                              case measure => first | exact round_less1 HJT.out | (rw [HWK2.out]; exact round_less1 HJT.out)
                            | true =>
                              cases hcn : (z.conn == x.o.conn) with
                              | false =>
                                have HM2 : Hid (woH x.o.n x.o.conn ns (qk.held.take (j + 1)) = m1) := Lib.hid (by rw [HSC.out, if_neg (by show ¬ (z.tag == x.o.n && z.conn == x.o.conn) = true; rw [htg, hcn]; simp)])
                                go_wp2_with fail
                                go_roundw
                                case rel => exact ⟨j + 1, A2, c2, HJT.out, by first | rfl | (rw [HWK2.out]; rfl), by rw [HM2.out], Lib.hid (by rw [HM2.out]; first | exact HSJ.out _ | exact (HSJ.out _).below ((Below.refl _ _).drew)), Lib.hid (by first | exact HBJ.out _ | exact (HBJ.out _).drew)⟩
                                case measure => first | exact round_less1 HJT.out | (rw [HWK2.out]; exact round_less1 HJT.out)
                              | true =>
                                have HM2 : Hid (woH x.o.n x.o.conn ns (qk.held.take (j + 1)) = wo m1 z.r.it.seq) := Lib.hid (by rw [HSC.out, if_pos (by show (z.tag == x.o.n && z.conn == x.o.conn) = true; rw [htg, hcn]; rfl)]; rfl)
                                have HWO := Lib.hid (fun w1 (b : Below wr.heap.size wr w1) => without_c (w := w1) m1 z.r.it.seq (rc_below (oi_rin HS2.out.own) b) (by have := HM1.out; omega))
                                go_wp2_with fail
                                refine (HWO.out _ (by first | exact (Below.refl _ _).alloc (Nat.le_refl _) _ | exact ((Below.refl _ _).alloc (Nat.le_refl _) _).drew)).mono ?_
                                rintro e w9 ⟨v9, rfl, o9, b9⟩
                                obtain ⟨A9, c9, rfl⟩ := oi_lit o9
                                have HS9 : Hid (TS w w9 K px r' (.slice A9 (wo m1 z.r.it.seq).length c9) (wo m1 z.r.it.seq)) := Lib.hid (TS.repl (by first | exact HSJ.out _ | exact (HSJ.out _).below ((Below.refl _ _).drew)) b9 o9)
                                have HB9 : Hid (Below V2.heap.size V2 w9) := Lib.hid ((HBJ.out _).trans (b9.mono (HBJ.out _).size))
                                clear o9 b9
                                go_wp2_with fail
                                go_roundw
                                case rel => exact ⟨j + 1, A9, c9, HJT.out, by first | rfl | (rw [HWK2.out]; rfl), by rw [HM2.out], Lib.hid (by rw [HM2.out]; exact HS9.out), HB9⟩
                                case measure => first | exact round_less1 HJT.out | (rw [HWK2.out]; exact round_less1 HJT.out)
                          · have hj2 : j = rk.hs.length := by omega
                            subst hj2
                            have htk : qk.held.take rk.hs.length = qk.held := by rw [← HLH.out, List.take_length]
                            rw [htk] at HS2 ⊢
                            clear hjl hj htk
                            go_wp2_with fail
                            go_meet
                            exact ⟨_, _, _, rfl, HS2, HIN⟩
                      -- @A2 }
                  | false =>
                   cases e4 : (x.o.kind == 4) with
                   | true =>
                        -- @A4 {
                        have HIN := Lib.hid (does_expire (eq_of_beq e4) HPR.out HI.out HGK.out)
                        obtain ⟨ia, hia⟩ : ∃ ia, ia = rk.ia := ⟨_, rfl⟩
                        have HHI : Hid (RIt V2 (.slice ia rk.is.length rk.ic) rk.is) := Lib.hid (by rw [hia]; exact HQI.out.items)
                        have t5 : V2.cell? ⟨K2, 5, none⟩ = some (.slice ia rk.is.length rk.ic) := by simp only [World.cell?, HE8.out]; rw [hia]; rfl
                        have hlh : qk.items.length = rk.is.length := by rw [← HQI.out.ip, List.length_map]
                        have HLH := Lib.hid hlh
                        have HH64 : Hid (rk.is.length ≤ 64) := Lib.hid (by have := goodQ_len HGK.out; omega)
                        have HIP := Lib.hid HQI.out.ip
                        clear hia hlh
                        go_wp2_with fail
                        clear t5
                        go_loopw [7, 18, 137] (fun v _ i wx => ∃ (j : Nat) (A' : Option Addr) (c' : Nat), j ≤ rk.is.length ∧ i = .int .i64 j ∧ v = .slice A' (woI x.o.n ns (qk.items.take j)).length c' ∧ Hid (TS w wx K px r' (.slice A' (woI x.o.n ns (qk.items.take j)).length c') (woI x.o.n ns (qk.items.take j))) ∧ Hid (Below V2.heap.size V2 wx)) (fun _ _ i _ => rk.is.length - (intOf i).toNat)
                        case atStart => exact ⟨0, A1, c1, Nat.zero_le _, rfl, rfl, HSN, Lib.hid (Below.refl _ _)⟩
                        case round =>
                          obtain ⟨j, A2, c2, hj, rfl, rfl, HS2, HB2⟩ := hrel
                          by_cases hjl : j < rk.is.length
                          · obtain ⟨z, hz⟩ : ∃ z, rk.is[j]? = some z := ⟨_, List.getElem?_eq_getElem hjl⟩
                            obtain ⟨-, a1, rfl, q0, q1, q2, q3, q4, q5, q6⟩ := items_lit (HHI.out.below HB2.out) j z hz
                            have hjI : (j : Int) < (rk.is.length : Int) := by omega
                            have HJT := Lib.hid hjl
                            have HWK2 := Lib.hid (wk1 j _ hjl (by have := HH64.out; omega))
                            have hqz : qk.items[j]? = some z.it := by rw [← HIP.out, List.getElem?_map, hz]; rfl
                            have HSC := Lib.hid (woI_snoc (now := x.o.n) (l := ns) hqz)
                            obtain ⟨m1, hm1⟩ : ∃ m1, m1 = woI x.o.n ns (qk.items.take j) := ⟨_, rfl⟩
                            have HM1 : Hid (m1.length ≤ 64) := Lib.hid (by rw [hm1]; exact Nat.le_trans (woI_len _ _) H64.out)
                            rw [← hm1] at HS2 HSC ⊢
                            have HBJ : Hid (∀ o, Below V2.heap.size V2 (wr.alloc o)) := Lib.hid (fun o => HB2.out.alloc HB2.out.size o)
                            have HSJ : Hid (∀ o, TS w (wr.alloc o) K px r' (.slice A2 m1.length c2) m1) := Lib.hid (fun o => HS2.out.below ((Below.refl _ _).alloc (Nat.le_refl _) o))
                            have g2 : ∀ o, (wr.alloc o).cell? ⟨K1, 2, none⟩ = some (.int .i64 x.o.n) := fun o => HOC.out _ (HBJ.out o) 2 _ rfl
                            clear hz hjl hj hqz hm1
                            by_cases ht1 : 0 < z.it.m.unt
                            · by_cases ht2 : z.it.m.unt ≤ x.o.n
                              · have HM2 : Hid (woI x.o.n ns (qk.items.take (j + 1)) = wo m1 z.it.seq) := Lib.hid (by rw [HSC.out, if_pos (by unfold gone; simp [ht1, ht2])])
                                have HWO := Lib.hid (fun w1 (b : Below wr.heap.size wr w1) => without_c (w := w1) m1 z.it.seq (rc_below (oi_rin HS2.out.own) b) (by have := HM1.out; omega))
                                go_wp2_with fail
                                refine (HWO.out _ (by first | exact (Below.refl _ _).alloc (Nat.le_refl _) _ | exact ((Below.refl _ _).alloc (Nat.le_refl _) _).drew)).mono ?_
                                rintro e w9 ⟨v9, rfl, o9, b9⟩
                                obtain ⟨A9, c9, rfl⟩ := oi_lit o9
                                have HS9 : Hid (TS w w9 K px r' (.slice A9 (wo m1 z.it.seq).length c9) (wo m1 z.it.seq)) := Lib.hid (TS.repl (by first | exact HSJ.out _ | exact (HSJ.out _).below ((Below.refl _ _).drew)) b9 o9)
                                have HB9 : Hid (Below V2.heap.size V2 w9) := Lib.hid ((HBJ.out _).trans (b9.mono (HBJ.out _).size))
                                clear o9 b9
                                go_wp2_with fail
                                go_roundw
                                case rel => exact ⟨j + 1, A9, c9, HJT.out, by first | rfl | (rw [HWK2.out]; rfl), by rw [HM2.out], Lib.hid (by rw [HM2.out]; exact HS9.out), HB9⟩
                                case measure => first | exact round_less1 HJT.out | (rw [HWK2.out]; exact round_less1 HJT.out)
                              · have HM2 : Hid (woI x.o.n ns (qk.items.take (j + 1)) = m1) := Lib.hid (by rw [HSC.out, if_neg (by unfold gone; simp [ht2])])
                                go_wp2_with fail
                                go_roundw
                                case rel => exact ⟨j + 1, A2, c2, HJT.out, by first | rfl | (rw [HWK2.out]; rfl), by rw [HM2.out], Lib.hid (by rw [HM2.out]; first | exact HSJ.out _ | exact (HSJ.out _).below ((Below.refl _ _).drew)), Lib.hid (by first | exact HBJ.out _ | exact (HBJ.out _).drew)⟩
                                case measure => first | exact round_less1 HJT.out | (rw [HWK2.out]; exact round_less1 HJT.out)
                            · have HM2 : Hid (woI x.o.n ns (qk.items.take (j + 1)) = m1) := Lib.hid (by rw [HSC.out, if_neg (by unfold gone; simp [ht1])])
                              go_wp2_with fail
                              go_roundw
                              case rel => exact ⟨j + 1, A2, c2, HJT.out, by first | rfl | (rw [HWK2.out]; rfl), by rw [HM2.out], Lib.hid (by rw [HM2.out]; first | exact HSJ.out _ | exact (HSJ.out _).below ((Below.refl _ _).drew)), Lib.hid (by first | exact HBJ.out _ | exact (HBJ.out _).drew)⟩
                              case measure => first | exact round_less1 HJT.out | (rw [HWK2.out]; exact round_less1 HJT.out)
                          · have hj2 : j = rk.is.length := by omega
                            subst hj2
                            have htk : qk.items.take rk.is.length = qk.items := by rw [← HLH.out, List.take_length]
                            rw [htk] at HS2 ⊢
                            clear hjl hj htk
                            go_wp2_with fail
                            go_meet
                            exact ⟨_, _, _, rfl, HS2, HIN⟩
                        -- @A4 }
                   | false =>
                        -- @A5 {
                        have HIN := Lib.hid (does_rest (beq_eq_false_iff_ne.1 e0) (beq_eq_false_iff_ne.1 e1) (beq_eq_false_iff_ne.1 e2) (beq_eq_false_iff_ne.1 e4) HPR.out HI.out HGK.out)
                        go_wp2_with fail
                        go_meet
                        exact ⟨ns, A1, c1, rfl, HSN, HIN⟩
                        -- @A5 }
              case rest =>
                clear o0 o1 o2 o3 o4 o5 o6 o7 o8
                obtain ⟨ms, A2, c2, rfl, HSC, HIC⟩ := hcut
                clear HSN HI HPR HE7 HE8 HIV HQK HGK HOC H64 HXI HS8L
            
                have hlen := HIC.out.len HSC.out.gd
                have h64 := goodQ_len HSC.out.gd
                have hli : px.items.length = r'.is.length := by rw [← HSC.out.qin.ip, List.length_map]
                have hlh : px.held.length = r'.hs.length := by rw [← HSC.out.qin.hp, List.length_map]
                have HM64 : Hid (ms.length ≤ 64) := Lib.hid (by omega)
                have HI64 : Hid (r'.is.length ≤ 64) := Lib.hid (by omega)
                have HH64 : Hid (r'.hs.length ≤ 64) := Lib.hid (by omega)
                have hlc := len_c (w := wc) px r' HSC.out.qin (by omega)
                rw [show ((px.items.length : Int) + px.held.length) = (ms.length : Int) by omega] at hlc
                have HLC := Lib.hid hlc
                have HLI := Lib.hid hli
                have HLH := Lib.hid hlh
                clear hlen h64 hli hlh hlc
                have z0 := HSC.out.cell 0 _ rfl
                have z1 := HSC.out.cell 1 _ rfl
                have z2 := HSC.out.cell 2 _ rfl
                have z3 := HSC.out.cell 3 _ rfl
                have z4 := HSC.out.cell 4 _ rfl
                have z5 := HSC.out.cell 5 _ rfl
                have z6 := HSC.out.cell 6 _ rfl
                go_wp2_with fail
                refine (HLC.out).mono ?_
                rintro e w9 ⟨rfl, b9⟩
                have HS9 := Lib.hid (HSC.out.below b9)
                obtain ⟨ia, hia⟩ : ∃ ia, ia = r'.ia := ⟨_, rfl⟩
                obtain ⟨ha, hha⟩ : ∃ ha, ha = r'.ha := ⟨_, rfl⟩
                have HRI : Hid (RIt w9 (.slice ia r'.is.length r'.ic) r'.is) := Lib.hid (by rw [hia]; exact HS9.out.qin.items)
                have HRH : Hid (RHl w9 (.slice ha r'.hs.length r'.hc) r'.hs) := Lib.hid (by rw [hha]; exact HS9.out.qin.held)
                have HC5 : Hid (∀ w1, Below w9.heap.size w9 w1 → w1.cell? ⟨K, 5, none⟩ = some (.slice ia r'.is.length r'.ic)) := Lib.hid (fun w1 b => by rw [hia]; exact (HS9.out.below b).cell 5 _ rfl)
                have HC6 : Hid (∀ w1, Below w9.heap.size w9 w1 → w1.cell? ⟨K, 6, none⟩ = some (.slice ha r'.hs.length r'.hc)) := Lib.hid (fun w1 b => by rw [hha]; exact (HS9.out.below b).cell 6 _ rfl)
                have HIP := Lib.hid HS9.out.qin.ip
                have HHP := Lib.hid HS9.out.qin.hp
                have HRM : Hid (RIn w9 (.slice A2 ms.length c2) ms) := Lib.hid (oi_rin HS9.out.own)
                have hms : ((ms.length : Int) != (ms.length : Int)) = false := by simp
                clear b9 HLC HSC hia hha z0 z1 z2 z3 z4 z5 z6
                go_wp2_with fail
                clear hms
                go_loopw [20, 21, 23, 25, 165] (fun _ _ _ _ i wx => ∃ (j : Nat), j ≤ ms.length ∧ i = .int .i64 j ∧ Hid (Below w9.heap.size w9 wx)) (fun _ _ _ _ i _ => ms.length - (intOf i).toNat)
                case atStart => exact ⟨0, Nat.zero_le _, rfl, Lib.hid (Below.refl _ _)⟩
                case round =>
                  obtain ⟨j, hj, rfl, HB⟩ := hrel
                  by_cases hjl : j < ms.length
                  · obtain ⟨x1, hx1⟩ : ∃ x1, ms[j]? = some x1 := ⟨_, List.getElem?_eq_getElem hjl⟩
                    have HRM2 := rc_below HRM.out HB.out
                    obtain ⟨a1, ha1, m0⟩ := rin_cell HRM2 j x1 hx1
                    subst ha1
                    have hjI : (j : Int) < (ms.length : Int) := by omega
                    have HJT := Lib.hid hjl
                    have HWK2 := Lib.hid (wk1 j _ hjl (by have := HM64.out; omega))
                    have HON := Lib.hid (HIC.out.one HS9.out.gd (List.mem_of_getElem? hx1))
                    have k5 := HC5.out wr HB.out
                    clear hx1 hjl hj HRM2
                    go_wp2_with fail
                    clear k5 m0
                    have HBA := HB
                    clear HB
                    go_loopw [21, 23, 172] (fun t _ i wx => ∃ (m c : Nat), m ≤ r'.is.length ∧ i = .int .i64 m ∧ t = .int .i64 c ∧ Hid (c = cntI x1 (px.items.take m)) ∧ Hid (Below w9.heap.size w9 wx)) (fun _ _ i _ => r'.is.length - (intOf i).toNat)
                    case atStart => exact ⟨0, 0, Nat.zero_le _, rfl, rfl, Lib.hid rfl, HBA⟩
                    case round =>
                      clear HBA
                      obtain ⟨m, cn, hm, rfl, rfl, HCN, HB⟩ := hrel
                      by_cases hml : m < r'.is.length
                      · obtain ⟨y, hy⟩ : ∃ y, r'.is[m]? = some y := ⟨_, List.getElem?_eq_getElem hml⟩
                        obtain ⟨-, a2, ha2, q0, q1, q2, q3, q4, q5, q6⟩ := items_lit (HRI.out.below HB.out) m y hy
                        subst ha2
                        have hmI : (m : Int) < (r'.is.length : Int) := by omega
                        have HMT := Lib.hid hml
                        have HWK3 := Lib.hid (wk1 m _ hml (by have := HI64.out; omega))
                        have hqy : px.items[m]? = some y.it := by rw [← HIP.out, List.getElem?_map, hy]; rfl
                        have HCS := Lib.hid (cntI_snoc (n := x1) hqy)
                        have HWC := Lib.hid (wk1 cn 100 (by have := HCN.out; have := cntI_le x1 (px.items.take m); rw [List.length_take] at this; have := HI64.out; omega) (by omega))
                        have HBJ : Hid (∀ o, Below w9.heap.size w9 (wr.alloc o)) := Lib.hid (fun o => HB.out.alloc HB.out.size o)
                        clear hy hml hm hqy
                        cases hsq : (y.it.seq == x1) with
                        | true =>
                          have HC2 : Hid (cn + 1 = cntI x1 (px.items.take (m + 1))) := Lib.hid (by rw [HCS.out, ← HCN.out, if_pos hsq])
                          go_wp2_with fail
                          go_roundw
                          case rel => exact ⟨m + 1, cn + 1, HMT.out, by first | rfl | (rw [HWK3.out]; rfl), by first | rfl | (rw [HWC.out]; rfl), HC2, Lib.hid (HBJ.out _)⟩
                          case measure => first | exact round_less1 HMT.out | (rw [HWK3.out]; exact round_less1 HMT.out)
                        | false =>
                          have HC2 : Hid (cn = cntI x1 (px.items.take (m + 1))) := Lib.hid (by rw [HCS.out, ← HCN.out, if_neg (by rw [hsq]; decide)]; rfl)
                          go_wp2_with fail
                          go_roundw
                          case rel => exact ⟨m + 1, cn, HMT.out, by first | rfl | (rw [HWK3.out]; rfl), rfl, HC2, Lib.hid (HBJ.out _)⟩
                          case measure => first | exact round_less1 HMT.out | (rw [HWK3.out]; exact round_less1 HMT.out)
                      · have hm2 : m = r'.is.length := by omega
                        subst hm2
                        have HCI : Hid (cn = cntI x1 px.items) := Lib.hid (by rw [HCN.out, ← HLI.out, List.take_length])
                        have k6 := HC6.out wr HB.out
                        clear hml hm HCN
                        go_wp2_with fail
                        clear k6
                        have HBA := HB
                        clear HB
                        go_loopw [21, 25, 186] (fun t _ i wx => ∃ (m c : Nat), m ≤ r'.hs.length ∧ i = .int .i64 m ∧ t = .int .i64 c ∧ Hid (c = cntI x1 px.items + cntH x1 (px.held.take m)) ∧ Hid (Below w9.heap.size w9 wx)) (fun _ _ i _ => r'.hs.length - (intOf i).toNat)
                        case atStart => exact ⟨0, cn, Nat.zero_le _, rfl, rfl, Lib.hid (by rw [HCI.out]; rfl), HBA⟩
                        case round =>
                          clear HBA HCI
                          obtain ⟨m, cn, hm, rfl, rfl, HCN, HB⟩ := hrel
                          by_cases hml : m < r'.hs.length
                          · obtain ⟨y, hy⟩ : ∃ y, r'.hs[m]? = some y := ⟨_, List.getElem?_eq_getElem hml⟩
                            obtain ⟨-, a2, ha2, q0, q1, q2, q3, q4, q5, q6, q7, q8, q9⟩ := held_lit (HRH.out.below HB.out) m y hy
                            subst ha2
                            have hmI : (m : Int) < (r'.hs.length : Int) := by omega
                            have HMT := Lib.hid hml
                            have HWK3 := Lib.hid (wk1 m _ hml (by have := HH64.out; omega))
                            have hqy : px.held[m]? = some y.pl := by rw [← HHP.out, List.getElem?_map, hy]; rfl
                            have HCS := Lib.hid (cntH_snoc (n := x1) hqy)
                            have HWC := Lib.hid (wk1 cn 200 (by have := HCN.out; have h1 := cntH_le x1 (px.held.take m); have h2 := cntI_le x1 px.items; rw [List.length_take] at h1; have := HH64.out; have := HI64.out; have := HLI.out; omega) (by omega))
                            have HBJ : Hid (∀ o, Below w9.heap.size w9 (wr.alloc o)) := Lib.hid (fun o => HB.out.alloc HB.out.size o)
                            clear hy hml hm hqy
                            cases hsq : (y.r.it.seq == x1) with
                            | true =>
                              have HC2 : Hid (cn + 1 = cntI x1 px.items + cntH x1 (px.held.take (m + 1))) := Lib.hid (by rw [HCS.out, HCN.out, if_pos (show (y.pl.it.seq == x1) = true from hsq)]; omega)
                              go_wp2_with fail
                              go_roundw
                              case rel => exact ⟨m + 1, cn + 1, HMT.out, by first | rfl | (rw [HWK3.out]; rfl), by first | rfl | (rw [HWC.out]; rfl), HC2, Lib.hid (HBJ.out _)⟩
                              case measure => first | exact round_less1 HMT.out | (rw [HWK3.out]; exact round_less1 HMT.out)
                            | false =>
                              have HC2 : Hid (cn = cntI x1 px.items + cntH x1 (px.held.take (m + 1))) := Lib.hid (by rw [HCS.out, HCN.out, if_neg (show ¬ (y.pl.it.seq == x1) = true by rw [show (y.pl.it.seq == x1) = false from hsq]; decide)]; rfl)
                              go_wp2_with fail
                              go_roundw
                              case rel => exact ⟨m + 1, cn, HMT.out, by first | rfl | (rw [HWK3.out]; rfl), rfl, HC2, Lib.hid (HBJ.out _)⟩
                              case measure => first | exact round_less1 HMT.out | (rw [HWK3.out]; exact round_less1 HMT.out)
                          · have hm2 : m = r'.hs.length := by omega
                            subst hm2
                            obtain rfl : cn = 1 := by rw [HCN.out, ← HLH.out, List.take_length]; exact HON.out
                            clear hml hm HCN
                            go_wp2_with fail
                            go_roundw
                            case rel => exact ⟨j + 1, HJT.out, by first | rfl | (rw [HWK2.out]; rfl), HB⟩
                            case measure => first | exact round_less1 HJT.out | (rw [HWK2.out]; exact round_less1 HJT.out)
                  · have hj2 : j = ms.length := by omega
                    subst hj2
                    have HSE := Lib.hid (HS9.out.below HB.out)
                    clear hjl hj
                    go_wp2_with fail
                    go_roundw
                    case rel => exact ⟨k + 1, px, r', ms, HLT.out, by first | rfl | (rw [HWK1.out]; rfl), HSE, HIC⟩
                    case measure => first | exact round_less1 HLT.out | (rw [HWK1.out]; exact round_less1 HLT.out)
        · have hk2 : k = xs.length := by omega
          subst hk2
          have HBE := Lib.hid HS.out.bel
          clear hlt hk HS
          go_wp2_with fail
          go_ret
          exact ⟨rfl, HBE.out⟩
end Go.Proofs.YtelhpdnclmpgoaaDoor
