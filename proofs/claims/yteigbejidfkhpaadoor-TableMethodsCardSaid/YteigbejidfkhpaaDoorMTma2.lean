/- Texts of this claim, joined: TkG, RfE, RfN, RfP, RfQ, RfR, RhB, RhC, TkD, TkE, TkF, DeA, DeP, RmC. -/
import Derived.Test.YteigbejidfkhpaaDoorMTma1
import Derived.BigQuiet
import Derived.Deep.QuietTactic
import Derived.Deep.AppendLies
import Derived.Deep.DeepCutAuto
import Derived.Deep.CutRange
import Derived.Defers
import Derived.Recover
import Derived.Deep.RegionHeld3
/- Plain law: a valid list's bytes are read as the list. -/
namespace Go.Proofs.YteigbejidfkhpaaDoor
open Go Go.Proofs Go.RowKit
set_option linter.unusedSimpArgs false
set_option linter.unusedVariables false

def bs (l : List UInt8) : ByteArray := ⟨l.toArray⟩
theorem bs_size (l : List UInt8) : (bs l).size = l.length := by unfold bs; show l.toArray.size = _; simp
theorem bs_list (l : List UInt8) : (bs l).data.toList = l := by simp [bs]
theorem bs_of (s : ByteArray) : bs s.data.toList = s := ba_ext (bs_list _)
theorem ba_extract (s : ByteArray) (a b : Nat) : (s.extract a b).data.toList = (s.data.toList.take b).drop a := by
  rw [Lib.extract_data, List.drop_take]
theorem bs_extract (l : List UInt8) (a b : Nat) : (bs l).extract a b = bs ((l.take b).drop a) := by
  apply ba_ext
  rw [bs_list, ba_extract, bs_list]
theorem takeP_app (x r : List UInt8) : takeP x.length (bs (x ++ r)) = some (bs x, bs r) := by
  unfold takeP
  rw [if_pos (by rw [bs_size, List.length_append]; omega), bs_extract, bs_extract]
  have e1 : (x ++ r).take (x.length + r.length) = x ++ r := List.take_of_length_le (by rw [List.length_append]; omega)
  simp [bs_size, e1]
theorem takeP_short {n : Nat} {l : List UInt8} (h : l.length < n) : takeP n (bs l) = none := by
  unfold takeP
  rw [if_neg (by rw [bs_size]; omega)]
theorem numP_app (k n : Nat) (hn : n < 256 ^ k) (r : List UInt8) : numP k (bs (beB n k ++ r)) = some (n, bs r) := by
  have h := takeP_app (beB n k) r
  rw [beB_len] at h
  unfold numP
  rw [h]
  simp only [Option.map_some, bs_list]
  rw [natB_beB, Nat.mod_eq_of_lt hn]
theorem numP_short {k : Nat} {l : List UInt8} (h : l.length < k) : numP k (bs l) = none := by
  unfold numP
  rw [takeP_short h]
  rfl
theorem longP_app (x r : List UInt8) (hx : x.length < 4294967296) : longP (bs (beB x.length 4 ++ (x ++ r))) = some (bs x, bs r) := by
  unfold longP
  rw [numP_app 4 x.length hx]
  exact takeP_app x r
theorem shortP_app (x r : List UInt8) (hx : x.length < 256) : shortP (bs (UInt8.ofNat x.length :: (x ++ r))) = some (bs x, bs r) := by
  have h : UInt8.ofNat x.length :: (x ++ r) = beB x.length 1 ++ (x ++ r) := by simp [beB, dig]
  unfold shortP
  rw [h, numP_app 1 x.length hx]
  exact takeP_app x r
theorem takeP_one (c : UInt8) (r : List UInt8) : takeP 1 (bs (c :: r)) = some (⟨#[c]⟩, bs r) := takeP_app [c] r

theorem sgn64 (n : Int) (h0 : -9223372036854775808 ≤ n) (h1 : n ≤ 9223372036854775807) : sgn 64 (n % 18446744073709551616).toNat = n := by
  unfold sgn
  show (if _ < 9223372036854775808 then _ else _ - 18446744073709551616) = n
  split <;> omega
theorem widR_back {r n : Nat} (hr : r < 2 ^ 64) (hc : r = canonR r) (h : narB r = some n) : widR n = r := by
  by_cases hn : nanB r = true
  · have e : r = 9221120237041090561 := by rw [hc]; unfold canonR; rw [if_pos hn]
    have e2 : n = 2143289344 := by
      unfold narB at h
      rw [if_pos hn] at h
      injection h with h
      exact h.symm
    rw [e, e2]
    decide +kernel
  · have hn' : nanB r = false := by simpa using hn
    obtain ⟨v, hv, ho, hv64⟩ := narB_spec hn' h
    rcases FloatL.order_eq hv64 hr ho with ⟨_, hz⟩ | e
    · have h2 : r = 0 ∨ r = 9223372036854775808 := by
        have : (2 : Nat) ^ 63 = 9223372036854775808 := by decide
        have : (2 : Nat) ^ 64 = 18446744073709551616 := by decide
        omega
      rcases h2 with rfl | rfl
      · have e : narB 0 = some 0 := by decide +kernel
        rw [e] at h
        injection h with h
        rw [← h]
        decide +kernel
      · have e : narB 9223372036854775808 = some 2147483648 := by decide +kernel
        rw [e] at h
        injection h with h
        rw [← h]
        decide +kernel
    · subst e
      unfold widR
      rw [hv]
      exact hc.symm

theorem valP_app {p : Prp} (hp : p.fit) (r : List UInt8) : valP (bs (valB p ++ r)) = some (⟨p.k, p.n, p.t, p.r⟩, bs r) := by
  obtain ⟨gp, rp, np0, np1⟩ := hp
  rcases good_of gp with ⟨a, b, c⟩ | ⟨a, b, c, d⟩ | ⟨a, b, c, d⟩ | ⟨a, b, c, d⟩
  · rw [val1 a, List.cons_append]
    unfold valP
    rw [takeP_one, Option.bind_some]
    show valQ ⟨#[108]⟩ _ = _
    unfold valQ
    rw [if_neg (by decide), if_neg (by decide), if_neg (by decide), if_neg (by decide), if_pos rfl, numP_app 8 _ (by show _ < 18446744073709551616; omega), Option.map_some]
    rw [sgn64 _ np0 np1, ba_nil b, a, c]
  · rw [val2 a, List.cons_append, List.cons_append, List.nil_append]
    unfold valP
    rw [takeP_one, Option.bind_some]
    show valQ ⟨#[116]⟩ _ = _
    unfold valQ
    have h := numP_app 1 p.n.toNat (by rw [Nat.pow_one]; omega) r
    rw [show beB p.n.toNat 1 ++ r = UInt8.ofNat p.n.toNat :: r by simp [beB, dig]] at h
    rw [if_pos rfl, h, Option.map_some]
    rw [ba_nil b, a, c, show ((p.n.toNat : Nat) : Int) = p.n by omega]
  · rw [val3 a, List.cons_append, List.append_assoc]
    unfold valP
    rw [takeP_one, Option.bind_some]
    show valQ ⟨#[83]⟩ _ = _
    unfold valQ
    have h := longP_app p.t.data.toList r (by rw [ba_size]; omega)
    rw [ba_size] at h
    rw [if_neg (by decide), if_neg (by decide), if_neg (by decide), if_neg (by decide), if_neg (by decide), if_neg (by decide), if_neg (by decide), if_pos rfl, h, Option.map_some]
    rw [bs_of, a, b, c]
  · rw [val4 a]
    unfold realB
    cases hn : narB p.r with
    | some n =>
      dsimp only
      rw [List.cons_append]
      unfold valP
      rw [takeP_one, Option.bind_some]
      show valQ ⟨#[102]⟩ _ = _
      unfold valQ
      rw [if_neg (by decide), if_neg (by decide), if_neg (by decide), if_neg (by decide), if_neg (by decide), if_pos rfl, numP_app 4 n (narB_lt hn), Option.map_some]
      rw [widR_back rp d hn, ba_nil c, a, b]
    | none =>
      dsimp only
      rw [List.cons_append]
      unfold valP
      rw [takeP_one, Option.bind_some]
      show valQ ⟨#[100]⟩ _ = _
      unfold valQ
      rw [if_neg (by decide), if_neg (by decide), if_neg (by decide), if_neg (by decide), if_neg (by decide), if_neg (by decide), if_pos rfl, numP_app 8 p.r rp, Option.map_some]
      dsimp only
      rw [← d, ba_nil c, a, b]
theorem itemP_app {p : Prp} (hn : p.nm.size ≤ 16) (hp : p.fit) (r : List UInt8) : itemP (bs (propB p ++ r)) = some (p, bs r) := by
  unfold itemP propB
  have h := shortP_app p.nm.data.toList (valB p ++ r) (by rw [ba_size]; omega)
  rw [ba_size] at h
  rw [List.cons_append, List.append_assoc, h, Option.bind_some]
  dsimp only
  rw [valP_app hp, Option.map_some, bs_of]
theorem itemsP_app : ∀ (ps : List Prp), (∀ p ∈ ps, p.nm.size ≤ 16 ∧ p.fit) → itemsP (bs (propsB ps)).size (bs (propsB ps)) = some ps
  | [], _ => itemsP_nil (by rw [bs_size]; rfl)
  | p :: r, h => by
    have e : propsB (p :: r) = propB p ++ propsB r := by simp [propsB]
    rw [e, itemsP_step (by rw [bs_size]; unfold propB; simp), itemP_app (h p (List.mem_cons_self ..)).1 (h p (List.mem_cons_self ..)).2, Option.bind_some]
    dsimp only
    rw [itemsP_app r (fun q hq => h q (List.mem_cons_of_mem _ hq))]
    rfl

/-! ### A sorted list is sorted as it is; a table's bytes -/
open Go.Sort in
theorem insOuter_id {d : Array Prp} {b : Nat} (h : ∀ i, 0 < i → i < b → ltOf cfP d[i]! d[i - 1]! = false) : ∀ (n i : Nat), b - i ≤ n → 0 < i → insOuter (ltOf cfP) 0 b i d = d
  | 0, i, hn, h0 => insOuter_stop _ _ _ _ _ (by omega)
  | n + 1, i, hn, h0 => by
    by_cases hi : i < b
    · rw [insOuter_go _ _ _ _ _ hi, insInner_stop _ _ _ _ (.inr (h i h0 hi))]
      exact insOuter_id h n (i + 1) (by omega) (by omega)
    · exact insOuter_stop _ _ _ _ _ hi
theorem valid_lt : ∀ (ps : List Prp) (o : Option ByteArray), validL o ps = true → ∀ i p q, ps[i]? = some p → ps[i + 1]? = some q → Go.Op.bytesLess p.nm.toList q.nm.toList = true
  | [], _, _, _, _, _, hp, _ => by simp at hp
  | a :: r, o, h, i, p, q, hp, hq => by
    have hr : validL (some a.nm) r = true := by
      cases o <;> (unfold validL at h; simp only [Bool.and_eq_true] at h; exact h.2)
    cases i with
    | zero =>
      simp only [List.getElem?_cons_zero, Option.some.injEq] at hp
      subst hp
      cases r with
      | nil => simp at hq
      | cons b r =>
        simp only [List.getElem?_cons_succ, List.getElem?_cons_zero, Option.some.injEq] at hq
        subst hq
        unfold validL at hr
        simp only [Bool.and_eq_true] at hr
        exact hr.1.2
    | succ i => exact valid_lt r _ hr i p q (by simpa using hp) (by simpa using hq)
theorem less_iff (a b : ByteArray) : Go.Op.bytesLess a.toList b.toList = true ↔ a.data.toList < b.data.toList := by
  rw [bytesLess_eq, decide_eq_true_eq, ByteArray.toList_eq, ByteArray.toList_eq]
theorem sortP_valid {ps : List Prp} (h : validB ps = true) : sortP ps = ps := by
  have hv : validL none ps = true := by unfold validB at h; simp only [Bool.and_eq_true] at h; exact h.1
  have hl := valid_lt ps none hv
  unfold sortP Sort.insertionSort
  rw [insOuter_id (d := ps.toArray) (b := ps.length) ?_ ps.length 1 (by omega) (by omega)]
  intro i h0 hi
  obtain ⟨j, rfl⟩ : ∃ j, i = j + 1 := ⟨i - 1, by omega⟩
  have h1 := hl j ps[j] ps[j + 1] (List.getElem?_eq_getElem (by omega)) (List.getElem?_eq_getElem hi)
  rw [less_iff] at h1
  have e1 : ps.toArray[j + 1]! = ps[j + 1] := by simp [getElem!_def, hi]
  have e2 : ps.toArray[j + 1 - 1]! = ps[j] := by simp [getElem!_def, show j < ps.length by omega]
  rw [e1, e2, ltP_no]
  exact fun h2 => List.lt_irrefl _ (List.lt_trans h1 h2)
theorem tabP_valid {ps : List Prp} (h : validB ps = true) : tabP ps = some ps := by
  have := valid_len h
  unfold tabP
  rw [sortP_valid h, if_pos ⟨by omega, h⟩]
/-- What table.Put writes. -/
def putB (ps : List Prp) : List UInt8 := beB (propsB ps).length 4 ++ propsB ps
theorem fit_of {ps : List Prp} (h : validB ps = true) (hf : ∀ p ∈ ps, p.r < 2 ^ 64 ∧ -9223372036854775808 ≤ p.n ∧ p.n ≤ 9223372036854775807) : ∀ p ∈ ps, p.nm.size ≤ 16 ∧ p.fit := fun p hp => by
  obtain ⟨v1, v2⟩ := valid_all h p hp
  obtain ⟨q1, q2, q3⟩ := hf p hp
  unfold nameB at v1
  simp only [Bool.and_eq_true, decide_eq_true_eq] at v1
  exact ⟨v1.1.2, v2, q1, q2, q3⟩
theorem props_small {ps : List Prp} (h : validB ps = true) : (propsB ps).length ≤ 4448 := by
  have l1 := propsB_len ps (valid_all h)
  have m1 := valid_len h
  omega
theorem tableP_put {ps : List Prp} (h : validB ps = true) (hf : ∀ p ∈ ps, p.r < 2 ^ 64 ∧ -9223372036854775808 ≤ p.n ∧ p.n ≤ 9223372036854775807) (more : List UInt8) : tableP (bs (putB ps ++ more)) = some (ps, bs more) := by
  have hs := props_small h
  unfold tableP putB
  rw [List.append_assoc, longP_app _ _ (by omega), Option.bind_some]
  dsimp only
  rw [itemsP_app ps (fit_of h hf), Option.bind_some, tabP_valid h]
  rfl
/-- Nothing shorter is a table. -/
theorem tableP_short {ps : List Prp} (h : validB ps = true) {k : Nat} (hk : k < (putB ps).length) : tableP (bs ((putB ps).take k)) = none := by
  have hs := props_small h
  have hl : longP (bs ((putB ps).take k)) = none := by
    unfold longP
    by_cases h4 : k < 4
    · rw [numP_short (by rw [List.length_take]; omega)]
      rfl
    · have e : (putB ps).take k = beB (propsB ps).length 4 ++ (propsB ps).take (k - 4) := by
        unfold putB
        rw [List.take_append, List.take_of_length_le (by rw [beB_len]; omega), beB_len]
      rw [e, numP_app 4 _ (by show _ < 4294967296; omega), Option.bind_some]
      refine takeP_short ?_
      unfold putB at hk
      rw [List.length_append, beB_len] at hk
      rw [List.length_take]
      omega
  unfold tableP
  rw [hl]
  rfl
end Go.Proofs.YteigbejidfkhpaaDoor

/- The reference's Valid. -/
namespace Go.Proofs.YteigbejidfkhpaaDoor
open Go Go.RowKit
set_option linter.unusedSimpArgs false
set_option linter.unusedVariables false

theorem less_trans {a b c : ByteArray} (h1 : Go.Op.bytesLess a.toList b.toList = true) (h2 : Go.Op.bytesLess b.toList c.toList = true) : Go.Op.bytesLess a.toList c.toList = true := by
  rw [less_iff] at h1 h2 ⊢
  exact List.lt_trans h1 h2
/-- The names ahead of the last are less than it. -/
def Asc (ps : List Prp) (k : Nat) : Prop := ∀ j x q, j + 1 < k → ps[j]? = some x → pvN ps k = some q → Go.Op.bytesLess x.nm.toList q.toList = true
def LessAll (ps : List Prp) (m : Nat) (p : Prp) : Prop := ∀ j x, j < m → ps[j]? = some x → Go.Op.bytesLess x.nm.toList p.nm.toList = true
theorem valid_stop {ps : List Prp} {k m : Nat} {p x : Prp} (hI : validL none ps = validL (pvN ps k) (ps.drop k)) (hQ : Asc ps k) (hd : ps.drop k = p :: ps.drop (k + 1)) (hk : k < ps.length) (hm : m < k) (hx : ps[m]? = some x) (hno : Go.Op.bytesLess x.nm.toList p.nm.toList = false) : validB ps = false := by
  obtain ⟨j, rfl⟩ : ∃ j, k = j + 1 := ⟨k - 1, by omega⟩
  have hq : ps[j]? = some ps[j] := List.getElem?_eq_getElem (by omega)
  have hpv := pvN_succ hq
  have hn : Go.Op.bytesLess ps[j].nm.toList p.nm.toList = false := by
    by_cases e : m = j
    · subst e
      rw [hq] at hx
      injection hx with hx
      rw [hx]
      exact hno
    · have h1 := hQ m x _ (by omega) hx hpv
      cases h2 : Go.Op.bytesLess ps[j].nm.toList p.nm.toList with
      | false => rfl
      | true => rw [less_trans h1 h2] at hno; cases hno
  unfold validB
  rw [hI, hd, hpv]
  simp [validL, hn]
theorem valid_on {ps : List Prp} {k : Nat} {p : Prp} (hI : validL none ps = validL (pvN ps k) (ps.drop k)) (hd : ps.drop k = p :: ps.drop (k + 1)) (hp : ps[k]? = some p) (hnm : nameB p.nm = true) (hgd : p.good = true) (hL : LessAll ps k p) : validL none ps = validL (pvN ps (k + 1)) (ps.drop (k + 1)) := by
  rw [hI, hd, pvN_succ hp]
  cases k with
  | zero =>
    show validL none (p :: _) = _
    simp [validL, hnm, hgd]
  | succ j =>
    have hj : j < ps.length := by have := (List.getElem?_eq_some_iff.1 hp).1; omega
    have hq : ps[j]? = some ps[j] := List.getElem?_eq_getElem hj
    rw [pvN_succ hq]
    have := hL j _ (by omega) hq
    simp [validL, hnm, hgd, this]
theorem asc_succ {ps : List Prp} {k : Nat} {p : Prp} (hp : ps[k]? = some p) (hL : LessAll ps k p) : Asc ps (k + 1) := by
  intro j x q hj hx hq
  rw [pvN_succ hp] at hq
  injection hq with hq
  subst hq
  exact hL j x (by omega) hx
theorem less_succ {ps : List Prp} {m : Nat} {p x : Prp} (hL : LessAll ps m p) (hx : ps[m]? = some x) (h : Go.Op.bytesLess x.nm.toList p.nm.toList = true) : LessAll ps (m + 1) p := by
  intro j y hj hy
  by_cases e : j = m
  · subst e
    rw [hx] at hy
    injection hy with hy
    subst hy
    exact h
  · exact hL j y (by omega) hy

set_option maxRecDepth 100000 in
set_option maxHeartbeats 2000000 in
theorem refValid_c {w : World} {v : Value} {ps : List Prp} (hp : RPr w v ps) (hsz : ∀ p ∈ ps, p.nm.size ≤ 140737488351232 ∧ p.r < 18446744073709551616) :
    Calls Tryd.prog 33 #[v] w fun e w' => e = .returned (.bool (validB ps)) ∧ Below w.heap.size w w' := by
  have h63 : ps.length ≤ 9223372036854775807 := by obtain ⟨_, _, _, h1, h2, _⟩ := id hp; omega
  obtain ⟨A, c, rfl, hnc, hcell⟩ := props_at hp
  have HC := Lib.hid hcell
  have HS := Lib.hid hsz
  have H63 := Lib.hid h63
  clear h63
  have qs := store_float (P := Tryd.prog)
  obtain ⟨vb, hvb⟩ : ∃ vb, vb = validB ps := ⟨_, rfl⟩
  have HV := Lib.hid hvb
  rw [← hvb]
  clear hp hcell hsz hvb
  go_enter Tryd.func33, Tryd.ntmps33
  go_wp2_with fail
  go_loopw [8] (fun i wr => ∃ k : Nat, k ≤ ps.length ∧ k ≤ 16 ∧ i = .int .i64 k ∧ Hid (validL none ps = validL (pvN ps k) (ps.drop k)) ∧ Hid (Asc ps k) ∧ Below w.heap.size w wr) (fun i _ => ps.length - (intOf i).toNat)
  case atStart => exact ⟨0, Nat.zero_le _, Nat.zero_le _, rfl, Lib.hid rfl, Lib.hid (fun j x q h => by omega), Below.refl _ _⟩
  case round =>
    obtain ⟨k, hk, hk16, rfl, HI, HQ, b2⟩ := hrel
    by_cases hlt : k < ps.length
    · obtain ⟨p, hp⟩ : ∃ p, ps[k]? = some p := ⟨_, List.getElem?_eq_getElem hlt⟩
      obtain ⟨a, rfl, q0, q1, q2, q3, q4⟩ := HC.out k p hp
      have hns := HS.out p (List.mem_of_getElem? hp)
      have hdk : ps.drop k = p :: ps.drop (k + 1) := by rw [List.drop_eq_getElem_cons hlt]; congr 1; rw [List.getElem?_eq_getElem hlt] at hp; injection hp
      have p0 := cell_below b2 (World.block_lt_of_cell? w _ q0) q0
      have p1 := cell_below b2 (World.block_lt_of_cell? w _ q1) q1
      have p2 := cell_below b2 (World.block_lt_of_cell? w _ q2) q2
      have p3 := cell_below b2 (World.block_lt_of_cell? w _ q3) q3
      have p4 := cell_below b2 (World.block_lt_of_cell? w _ q4) q4
      have HDK := Lib.hid hdk
      have HP := Lib.hid hp
      have HN := Lib.hid hns
      have HLT := Lib.hid hlt
      have b3 := b2.alloc b2.size (.cells #[.string p.nm, .int .i64 p.k, .int .i64 p.n, .string p.t, .float .f64 p.r] 48)
      obtain ⟨W, hW⟩ : ∃ W, W = wr.alloc (.cells #[.string p.nm, .int .i64 p.k, .int .i64 p.n, .string p.t, .float .f64 p.r] 48) := ⟨_, rfl⟩
      have z0 : W.cell? ⟨wr.heap.size, 0, none⟩ = some (.string p.nm) := by rw [hW]; exact new_cell 0 _ rfl
      have z1 : W.cell? ⟨wr.heap.size, 1, none⟩ = some (.int .i64 p.k) := by rw [hW]; exact new_cell 1 _ rfl
      have z2 : W.cell? ⟨wr.heap.size, 2, none⟩ = some (.int .i64 p.n) := by rw [hW]; exact new_cell 2 _ rfl
      have z3 : W.cell? ⟨wr.heap.size, 3, none⟩ = some (.string p.t) := by rw [hW]; exact new_cell 3 _ rfl
      have z4 : W.cell? ⟨wr.heap.size, 4, none⟩ = some (.float .f64 p.r) := by rw [hW]; exact new_cell 4 _ rfl
      have zb : wr.heap.size < W.heap.size := by rw [hW]; show _ < (Array.push _ _).size; simp
      rw [← hW] at b3
      have HWW := Lib.hid hW
      have HZB := Lib.hid zb
      have hkI : (k : Int) ≤ 16 := by omega
      clear hp hdk q0 q1 q2 q3 q4 hW zb hns hlt
      go_upto_region 4 with fail
      rw [← HWW.out]
      have HNM := Lib.hid (refName_c (w := W) p.nm HN.out.1)
      cases hnm : nameB p.nm with
      | false =>
        have hvf : vb = false := by rw [HV.out]; unfold validB; rw [HI.out, HDK.out]; cases pvN ps k <;> (simp [validL, hnm])
        rw [hnm] at HNM
        subst hvf
        go_wp2_with fail
        refine (HNM.out).mono ?_
        rintro e w1 ⟨rfl, rfl⟩
        go_wp2_with fail
        go_ret
        exact ⟨rfl, b3⟩
      | true =>
        rw [hnm] at HNM
        have HGD := Lib.hid (refGood_c (w := W) p.k p.n p.t p.r HN.out.2)
        cases hgd : goodB p.k p.n p.t p.r with
        | false =>
          have hgd' : p.good = false := hgd
          have hvf : vb = false := by rw [HV.out]; unfold validB; rw [HI.out, HDK.out]; cases pvN ps k <;> (simp [validL, hnm, hgd'])
          rw [hgd] at HGD
          subst hvf
          clear hgd hgd' hnm
          go_wp2_with fail
          refine (HNM.out).mono ?_
          rintro e w1 ⟨rfl, rfl⟩
          go_wp2_with fail
          refine (HGD.out).mono ?_
          rintro e w1 ⟨rfl, b4⟩
          go_wp2_with fail
          go_ret
          exact ⟨rfl, b3.trans (b4.mono b3.size)⟩
        | true =>
          rw [hgd] at HGD
          have hgd' : p.good = true := hgd
          have HNX : Hid (LessAll ps k p → validL none ps = validL (pvN ps (k + 1)) (ps.drop (k + 1))) := Lib.hid (fun hL => valid_on HI.out HDK.out HP.out hnm hgd' hL)
          clear hgd hgd' hnm
          go_wp2_with fail
          refine (HNM.out).mono ?_
          rintro e w1 ⟨rfl, rfl⟩
          go_wp2_with fail
          refine (HGD.out).mono ?_
          rintro e w1 ⟨rfl, b4⟩
          have B4 := b3.trans (b4.mono b3.size)
          have y0 := cell_below b4 (World.block_lt_of_cell? W _ z0) z0
          clear z0 z1 z2 z3 z4 p0 p1 p2 p3 p4 HNM HGD b3 b4
          go_wp2_with fail
          obtain ⟨wL, hwL⟩ : ∃ wL, wL = w1 := ⟨_, rfl⟩
          have HWL := Lib.hid hwL
          clear hwL
          go_loopw [5] (fun i wx => ∃ m : Nat, m ≤ k ∧ i = .int .i64 m ∧ Hid (LessAll ps m p) ∧ Below wL.heap.size wL wx) (fun i _ => k - (intOf i).toNat)
          case atStart => exact ⟨0, Nat.zero_le _, rfl, Lib.hid (fun j x h => by omega), by rw [HWL.out]; exact Below.refl _ _⟩
          case round =>
            obtain ⟨m, hm, rfl, HL, b5⟩ := hrel
            have b5' : Below w1.heap.size w1 wr := by have h := b5; rw [HWL.out] at h; exact h
            have B5 := B4.trans (b5'.mono B4.size)
            by_cases hlt2 : m < k
            · have hml : m < ps.length := by have := HLT.out; omega
              obtain ⟨x, hx⟩ : ∃ x, ps[m]? = some x := ⟨_, List.getElem?_eq_getElem hml⟩
              obtain ⟨a', ha', g0, _, _, _, _⟩ := HC.out m x hx
              injection ha' with ha'
              subst ha'
              have g1 := cell_below B5 (World.block_lt_of_cell? w _ g0) g0
              have y1 := cell_below b5' (World.block_lt_of_cell? w1 _ y0) y0
              have hmI : (m : Int) < k := by omega
              have hmL : (m : Int) < ps.length := by omega
              have hmK : (m : Int) ≤ 16 := by omega
              have HX := Lib.hid hx
              have HLT2 := Lib.hid hlt2
              clear hx g0 hml hlt2
              cases hls : Go.Op.bytesLess x.nm.toList p.nm.toList with
              | false =>
                have hvf : vb = false := by rw [HV.out]; exact valid_stop HI.out HQ.out HDK.out HLT.out HLT2.out HX.out hls
                subst hvf
                go_wp2_with fail
                go_quiet (fail)
                go_wp2
                go_ret
                exact ⟨rfl, B5.trans ((below_drewN _ _).mono B5.size)⟩
              | true =>
                go_wp2_with fail
                go_quiet (fail)
                go_wp2
                go_roundw
                case rel => exact ⟨m + 1, by have := HLT2.out; omega, by go_num, Lib.hid (less_succ HL.out HX.out hls), b5.trans ((below_drewN _ _).mono b5.size)⟩
                case measure => have := HLT2.out; simp [intOf]; omega
            · obtain rfl : m = k := by omega
              by_cases h16 : m = 16
              · have hvf : vb = false := by
                  rw [HV.out]
                  unfold validB
                  rw [decide_eq_false (by have := HLT.out; omega), Bool.and_false]
                subst hvf h16
                clear hlt2
                go_wp2_with fail
                go_ret
                exact ⟨rfl, B5⟩
              · have h16' : (m : Int) < 16 := by omega
                have H16 := Lib.hid (show m + 1 ≤ 16 by omega)
                have hwk : wrap64 ((m : Int) + 1) = (m : Int) + 1 := by unfold wrap64; omega
                clear hlt2 h16
                go_wp2_with fail
                go_roundw
                case rel => exact ⟨m + 1, HLT.out, H16.out, by go_num, Lib.hid (HNX.out HL.out), Lib.hid (asc_succ HP.out HL.out), B5⟩
                case measure => have := HLT.out; simp [intOf]; omega
    · have hk2 : k = ps.length := by omega
      subst hk2
      have hvt : vb = true := by rw [HV.out]; unfold validB; rw [HI.out, List.drop_length, decide_eq_true hk16]; cases pvN ps ps.length <;> rfl
      subst hvt
      clear hlt
      go_wp2_with fail
      go_ret
      exact ⟨by first | rfl | (simp; omega), b2⟩
end Go.Proofs.YteigbejidfkhpaaDoor

/- The reference's Narrow, the plain law: the 32 bits, by a float's own bits. -/
namespace Go.Proofs.YteigbejidfkhpaaDoor.FloatL
open Ieee
set_option linter.unusedSimpArgs false
set_option linter.unusedVariables false

theorem widen_word {s : Bool} {m : Nat} {e : Int} (hm0 : m ≠ 0) (hm : m < 2 ^ 24) (he0 : -149 ≤ e) (he1 : e ≤ 104) :
    double.write (.number s m e) = double.word s ((e + m.log2 + 1022).toNat * 2 ^ 52 + m * 2 ^ (52 - m.log2)) := by
  obtain ⟨l, hl⟩ : ∃ l, l = m.log2 := ⟨_, rfl⟩
  have h1 : 2 ^ l ≤ m := by rw [hl]; exact Nat.log2_self_le hm0
  have h2 : m < 2 ^ (l + 1) := by rw [hl]; exact Nat.lt_log2_self
  have hl23 : l ≤ 23 := by
    have := (Nat.log2_lt hm0).2 hm
    omega
  rw [← hl]
  have hM0 : 2 ^ 52 ≤ m * 2 ^ (52 - l) := by
    have : 2 ^ l * 2 ^ (52 - l) = 2 ^ 52 := by rw [← Nat.pow_add]; congr 1; omega
    rw [← this]
    exact Nat.mul_le_mul_right _ h1
  have hM1 : m * 2 ^ (52 - l) < 2 ^ 53 := by
    have : 2 ^ (l + 1) * 2 ^ (52 - l) = 2 ^ 53 := by rw [← Nat.pow_add]; congr 1; omega
    rw [← this]
    exact Nat.mul_lt_mul_of_pos_right h2 (Nat.pow_pos (by decide))
  show double.nearest s m e = _
  unfold Format.nearest
  rw [if_neg hm0, ← hl, D_least]
  dsimp only
  rw [show (double.fractionBits : Int) = 52 from rfl, show max (e + (l : Int) - 52) (-1074) = e + l - 52 by omega, show (e - (e + (l : Int) - 52)).toNat = 52 - l by omega, show (e + (l : Int) - 52 - e).toNat = 0 by omega, shl]
  have hcut : Toward.even.cut s (m * 2 ^ (52 - l)) 0 = m * 2 ^ (52 - l) := by
    unfold Toward.cut
    simp [Nat.mod_one]
  rw [hcut, D_bin, D_inf]
  obtain ⟨K, hK⟩ : ∃ K : Nat, (e + (l : Int) - 52 - -1074).toNat = K := ⟨_, rfl⟩
  rw [hK]
  have hK1 : 873 ≤ K := by omega
  have hK2 : K ≤ 1149 := by omega
  have hKe : e + (l : Int) - 52 = (K : Int) - 1074 := by omega
  generalize m * 2 ^ (52 - l) = M at *
  rw [Nat.min_eq_left (by omega), show (e + (l : Int) + 1022).toNat = K by omega]
theorem narrow_word {s : Bool} {m : Nat} {e : Int} (hm0 : m ≠ 0) (hm : m < 2 ^ 24) (he0 : -149 ≤ e) (he1 : e ≤ 104) (hn : 2 ^ 23 ≤ m ∨ e = -149) :
    single.write (.number s (m * 2 ^ (52 - m.log2)) (e + m.log2 - 52)) = single.word s ((e + 149).toNat * 2 ^ 23 + m) := by
  obtain ⟨l, hl⟩ : ∃ l, l = m.log2 := ⟨_, rfl⟩
  have h1 : 2 ^ l ≤ m := by rw [hl]; exact Nat.log2_self_le hm0
  have h2 : m < 2 ^ (l + 1) := by rw [hl]; exact Nat.lt_log2_self
  have hl23 : l ≤ 23 := by
    have := (Nat.log2_lt hm0).2 hm
    omega
  have hl23' : 2 ^ 23 ≤ m → l = 23 := fun h => by rw [hl]; exact log2_eq h hm
  rw [← hl]
  have hM0 : 2 ^ 52 ≤ m * 2 ^ (52 - l) := by
    have : 2 ^ l * 2 ^ (52 - l) = 2 ^ 52 := by rw [← Nat.pow_add]; congr 1; omega
    rw [← this]
    exact Nat.mul_le_mul_right _ h1
  have hM1 : m * 2 ^ (52 - l) < 2 ^ 53 := by
    have : 2 ^ (l + 1) * 2 ^ (52 - l) = 2 ^ 53 := by rw [← Nat.pow_add]; congr 1; omega
    rw [← this]
    exact Nat.mul_lt_mul_of_pos_right h2 (Nat.pow_pos (by decide))
  have hlog : (m * 2 ^ (52 - l)).log2 = 52 := log2_eq hM0 hM1
  have hMne : m * 2 ^ (52 - l) ≠ 0 := by omega
  show single.nearest s (m * 2 ^ (52 - l)) (e + l - 52) = _
  unfold Format.nearest
  rw [if_neg hMne, hlog, S_least]
  dsimp only
  have hmax : max (e + (l : Int) - 52 + ((52 : Nat) : Int) - ((single.fractionBits : Nat) : Int)) (-149) = e := by
    rw [show ((single.fractionBits : Nat) : Int) = 23 from rfl]
    rcases hn with h | h
    · rw [hl23' h]; omega
    · omega
  rw [hmax, show (e + (l : Int) - 52 - e).toNat = 0 by omega, shl, Nat.pow_zero, Nat.mul_one, show (e - (e + (l : Int) - 52)).toNat = 52 - l by omega]
  have hcut : Toward.even.cut s (m * 2 ^ (52 - l)) (52 - l) = m := by
    unfold Toward.cut
    dsimp only
    rw [hlog, Nat.min_eq_left (by omega), shl, Nat.one_mul]
    have hp : 0 < 2 ^ (52 - l) := Nat.pow_pos (by decide)
    rw [Nat.mul_div_cancel _ hp, Nat.mul_mod_left]
    simp
  rw [hcut, S_bin, S_inf]
  obtain ⟨K, hK⟩ : ∃ K : Nat, (e - -149).toNat = K := ⟨_, rfl⟩
  rw [hK]
  have hK2 : K ≤ 253 := by omega
  rw [Nat.min_eq_left (by omega), show (e + 149).toNat = K by omega]
theorem single_word_read {s : Bool} {m : Nat} {e : Int} (hm : m < 2 ^ 24) (he0 : -149 ≤ e) (he1 : e ≤ 104) (hn : 2 ^ 23 ≤ m ∨ e = -149) :
    single.read (single.word s ((e + 149).toNat * 2 ^ 23 + m)) = .number s m e := by
  obtain ⟨K, hK⟩ : ∃ K : Nat, (e + 149).toNat = K := ⟨_, rfl⟩
  rw [hK]
  have hK2 : K ≤ 253 := by omega
  have hKe : e = (K : Int) - 149 := by omega
  obtain ⟨r1, r2⟩ := read_word (f := single) (by decide) s (K * 2 ^ 23 + m) (by rw [S_sgn]; omega)
  unfold Format.read
  dsimp only
  rw [r1, r2, S_bin, S_inf, S_least]
  have hs : (s.toNat == 1) = s := by cases s <;> rfl
  rw [hs]
  by_cases h : 2 ^ 23 ≤ m
  · rw [if_neg (by omega), if_pos (by omega), show (K * 2 ^ 23 + m) / 2 ^ 23 - 1 = K by omega, show 2 ^ 23 + (K * 2 ^ 23 + m) % 2 ^ 23 = m by omega, hKe]
    congr 1 <;> omega
  · have hK0 : K = 0 := by omega
    subst hK0
    rw [if_pos (by omega), Nat.zero_mul, Nat.zero_add, hKe]
    rfl
end Go.Proofs.YteigbejidfkhpaaDoor.FloatL
namespace Go.Proofs.YteigbejidfkhpaaDoor
open Go Go.RowKit Ieee FloatL

theorem word_d (s : Bool) (r : Nat) : Ieee.double.word s r = s.toNat * 2 ^ 63 + r := by
  unfold Format.word
  rw [D_sgn]
  cases s <;> simp
theorem word_s (s : Bool) (r : Nat) : Ieee.single.word s r = s.toNat * 2 ^ 31 + r := by
  unfold Format.word
  rw [S_sgn]
  cases s <;> simp
theorem nar_hit {s : Bool} {m : Nat} {e : Int} (hm0 : m ≠ 0) (hm : m < 2 ^ 24) (he0 : -149 ≤ e) (he1 : e ≤ 104) (hn : 2 ^ 23 ≤ m ∨ e = -149) :
    narB (Ieee.double.write (.number s m e)) = some (Ieee.single.word s ((e + 149).toNat * 2 ^ 23 + m)) := by
  have hrd := widen_read (s := s) hm0 hm he0 he1
  have hw := narrow_word (s := s) hm0 hm he0 he1 hn
  have hsr := single_word_read (s := s) hm he0 he1 hn
  have ho : Ieee.double.order (Ieee.double.write (.number s m e)) (Ieee.double.write (.number s m e)) = some .eq := by
    unfold Format.order
    rw [hrd]
    simp [Ieee.Datum.order]
  have hnn : nanB (Ieee.double.write (.number s m e)) = false := by
    unfold nanB
    rw [show FloatKind.f64.format.order _ _ = some .eq from ho]
    rfl
  have hv : widenE (Ieee.single.word s ((e + 149).toNat * 2 ^ 23 + m)) = some (Ieee.double.write (.number s m e)) := by
    unfold widenE
    rw [hsr]
  rw [narB_some hnn hrd (by rw [hw, hsr]; rfl) (by rw [hw]; exact hv), if_pos ho, hw]
/-- The reference's answer, of a float that is no NaN: sign, exponent, fraction. -/
def refN (g x f : Nat) : Option Nat :=
  if x = 2047 then some (g * 2 ^ 31 + 2139095040)
  else if x = 0 ∧ f = 0 then some (g * 2 ^ 31)
  else if (897 ≤ x ∧ x ≤ 1150) ∧ f % 2 ^ 29 = 0 then some (g * 2 ^ 31 + (x - 896) * 2 ^ 23 + f / 2 ^ 29)
  else if (x < 897 ∧ 874 ≤ x) ∧ (f + 2 ^ 52) % 2 ^ (926 - x) = 0 then some (g * 2 ^ 31 + (f + 2 ^ 52) / 2 ^ (926 - x))
  else none
theorem nar_one {g x f : Nat} (hg : g < 2) (h0 : 897 ≤ x) (h1 : x ≤ 1150) (hf : f < 2 ^ 52) (hd : f % 2 ^ 29 = 0) : narB (g * 2 ^ 63 + x * 2 ^ 52 + f) = some (g * 2 ^ 31 + (x - 896) * 2 ^ 23 + f / 2 ^ 29) := by
  obtain ⟨s, hs⟩ : ∃ s : Bool, g = s.toNat := ⟨g == 1, by rcases (show g = 0 ∨ g = 1 by omega) with rfl | rfl <;> rfl⟩
  obtain ⟨q, hq⟩ : ∃ q, f = q * 2 ^ 29 := ⟨f / 2 ^ 29, by omega⟩
  have hq2 : q < 2 ^ 23 := by omega
  have hl : (2 ^ 23 + q).log2 = 23 := log2_eq (by omega) (by omega)
  have h := nar_hit (s := s) (m := 2 ^ 23 + q) (e := (x : Int) - 1046) (by omega) (by omega) (by omega) (by omega) (.inl (by omega))
  rw [widen_word (by omega) (by omega) (by omega) (by omega), hl, word_d, word_s] at h
  rw [show ((x : Int) - 1046 + ((23 : Nat) : Int) + 1022).toNat = x - 1 by omega, show ((x : Int) - 1046 + 149).toNat = x - 897 by omega, show (52 - 23 : Nat) = 29 from rfl] at h
  rw [show g * 2 ^ 63 + x * 2 ^ 52 + f = s.toNat * 2 ^ 63 + ((x - 1) * 2 ^ 52 + (2 ^ 23 + q) * 2 ^ 29) by rw [hs]; omega, h]
  exact congrArg some (by rw [hs]; omega)
theorem nar_two {g x f : Nat} (hg : g < 2) (h0 : 874 ≤ x) (h1 : x < 897) (hf : f < 2 ^ 52) (hd : (f + 2 ^ 52) % 2 ^ (926 - x) = 0) : narB (g * 2 ^ 63 + x * 2 ^ 52 + f) = some (g * 2 ^ 31 + (f + 2 ^ 52) / 2 ^ (926 - x)) := by
  obtain ⟨s, hs⟩ : ∃ s : Bool, g = s.toNat := ⟨g == 1, by rcases (show g = 0 ∨ g = 1 by omega) with rfl | rfl <;> rfl⟩
  obtain ⟨l, rfl⟩ : ∃ l, x = l + 874 := ⟨x - 874, by omega⟩
  have hl22 : l ≤ 22 := by omega
  rw [show 926 - (l + 874) = 52 - l by omega] at hd ⊢
  obtain ⟨q, hq⟩ : ∃ q, q = (f + 2 ^ 52) / 2 ^ (52 - l) := ⟨_, rfl⟩
  have hqm : q * 2 ^ (52 - l) = f + 2 ^ 52 := by rw [hq]; have := Nat.div_add_mod (f + 2 ^ 52) (2 ^ (52 - l)); rw [hd, Nat.add_zero, Nat.mul_comm] at this; exact this
  have hp : 2 ^ l * 2 ^ (52 - l) = 2 ^ 52 := by rw [← Nat.pow_add]; congr 1; omega
  have hp2 : 2 ^ (l + 1) * 2 ^ (52 - l) = 2 ^ 53 := by rw [← Nat.pow_add]; congr 1; omega
  have hpos : 0 < 2 ^ (52 - l) := Nat.two_pow_pos _
  have hq0 : 2 ^ l ≤ q := Nat.le_of_mul_le_mul_right (by rw [hp, hqm]; omega) hpos
  have hq1 : q < 2 ^ (l + 1) := Nat.lt_of_mul_lt_mul_right (a := 2 ^ (52 - l)) (by rw [hp2, hqm]; omega)
  have hlog : q.log2 = l := log2_eq hq0 hq1
  have hq24 : q < 2 ^ 23 := Nat.lt_of_lt_of_le hq1 (Nat.pow_le_pow_right (by omega) (by omega))
  have hqn : q ≠ 0 := by have := Nat.two_pow_pos l; omega
  have h := nar_hit (s := s) (m := q) (e := -149) hqn (by omega) (by omega) (by omega) (.inr rfl)
  rw [widen_word hqn (by omega) (by omega) (by omega), hlog, word_d, word_s, hqm] at h
  rw [show ((-149 : Int) + (l : Int) + 1022).toNat = l + 873 by omega, show ((-149 : Int) + 149).toNat = 0 from rfl] at h
  rw [show g * 2 ^ 63 + (l + 874) * 2 ^ 52 + f = s.toNat * 2 ^ 63 + ((l + 873) * 2 ^ 52 + (f + 2 ^ 52)) by rw [hs]; omega, h, ← hq]
  exact congrArg some (by rw [hs]; omega)
end Go.Proofs.YteigbejidfkhpaaDoor

/- The reference's Narrow, the plain law: the same as the program's. -/
namespace Go.Proofs.YteigbejidfkhpaaDoor
open Go Go.RowKit Ieee FloatL
set_option linter.unusedSimpArgs false
set_option linter.unusedVariables false

theorem nar_none {r n : Nat} (hr : r < 2 ^ 64) (hn : nanB r = false) (h : narB r = some n) {g x f : Nat} (hg : g < 2) (hx : x < 2048) (hf : f < 2 ^ 52) (hgr : r = g * 2 ^ 63 + x * 2 ^ 52 + f)
    (h1 : x ≠ 2047) (h2 : ¬ (x = 0 ∧ f = 0)) (h3 : ¬ ((897 ≤ x ∧ x ≤ 1150) ∧ f % 2 ^ 29 = 0)) (h4 : ¬ ((x < 897 ∧ 874 ≤ x) ∧ (f + 2 ^ 52) % 2 ^ (926 - x) = 0)) : False := by
  obtain ⟨v, hv, ho, hvl⟩ := narB_spec hn h
  rcases order_eq hvl hr ho with ⟨_, hz⟩ | hv2
  · omega
  · subst hv2
    unfold widenE at hv
    cases hrd : Ieee.single.read n with
    | nan s t => rw [hrd] at hv; cases hv
    | infinity s =>
      rw [hrd] at hv
      have hv' : Ieee.double.write (.infinity s) = v := Option.some.inj hv
      have : Ieee.double.write (.infinity s) = s.toNat * 2 ^ 63 + 2047 * 2 ^ 52 := by cases s <;> decide
      have hs : s.toNat < 2 := Bool.toNat_lt s
      omega
    | number s m e =>
      rw [hrd] at hv
      have hv' : Ieee.double.write (.number s m e) = v := Option.some.inj hv
      have hs : s.toNat < 2 := Bool.toNat_lt s
      have ff := S_fin hrd
      have hm : m < 2 ^ 24 := ff.mag
      have he0 : -149 ≤ e := by have := ff.low; rwa [S_least] at this
      have hno : 2 ^ 23 ≤ m ∨ e = -149 := by have := ff.norm; rwa [S_least] at this
      have he1 : e ≤ 104 := by
        have k1 := ff.rung
        have k2 := ff.top
        rw [k1, S_inf, S_bin, S_least] at k2
        rcases hno with k | k
        · omega
        · omega
      by_cases hm0 : m = 0
      · subst hm0
        have : Ieee.double.write (.number s 0 e) = s.toNat * 2 ^ 63 := by
          show Ieee.double.word s 0 = _
          rw [word_d]
          omega
        omega
      · have hw := widen_word (s := s) hm0 hm he0 he1
        rw [hv', word_d] at hw
        obtain ⟨l, hl⟩ : ∃ l, l = m.log2 := ⟨_, rfl⟩
        have g1 : 2 ^ l ≤ m := by rw [hl]; exact Nat.log2_self_le hm0
        have g2 : m < 2 ^ (l + 1) := by rw [hl]; exact Nat.lt_log2_self
        rw [← hl] at hw
        by_cases hb : 2 ^ 23 ≤ m
        · have hl23 : l = 23 := by rw [hl]; exact log2_eq hb hm
          subst hl23
          obtain ⟨K, hK⟩ : ∃ K : Nat, (e + ((23 : Nat) : Int) + 1022).toNat = K := ⟨_, rfl⟩
          rw [hK, show (52 - 23 : Nat) = 29 from rfl] at hw
          have hK0 : 896 ≤ K := by omega
          have hK1 : K ≤ 1149 := by omega
          exact h3 ⟨by omega, by omega⟩
        · have he : e = -149 := by omega
          have hl22 : l ≤ 22 := by
            have := (Nat.log2_lt hm0).2 (show m < 2 ^ 23 by omega)
            omega
          rw [he, show ((-149 : Int) + (l : Int) + 1022).toNat = l + 873 by omega] at hw
          have hp : 2 ^ l * 2 ^ (52 - l) = 2 ^ 52 := by rw [← Nat.pow_add]; congr 1; omega
          have hp2 : 2 ^ (l + 1) * 2 ^ (52 - l) = 2 ^ 53 := by rw [← Nat.pow_add]; congr 1; omega
          have hM0 : 2 ^ 52 ≤ m * 2 ^ (52 - l) := by rw [← hp]; exact Nat.mul_le_mul_right _ g1
          have hM1 : m * 2 ^ (52 - l) < 2 ^ 53 := by rw [← hp2]; exact Nat.mul_lt_mul_of_pos_right g2 (Nat.two_pow_pos _)
          have hMm : m * 2 ^ (52 - l) % 2 ^ (52 - l) = 0 := Nat.mul_mod_left _ _
          generalize hMM : m * 2 ^ (52 - l) = M at hw hM0 hM1 hMm
          have hx2 : x = l + 874 := by omega
          have hf2 : f + 2 ^ 52 = M := by omega
          refine h4 ⟨by omega, ?_⟩
          rw [hf2, hx2, show 926 - (l + 874) = 52 - l by omega]
          exact hMm
theorem narB_ref {r : Nat} (hr : r < 2 ^ 64) (hn : nanB r = false) : narB r = refN (r / 2 ^ 63) (r / 2 ^ 52 % 2048) (r % 2 ^ 52) := by
  have hb := nan_bits r
  rw [hn] at hb
  obtain ⟨g, hg⟩ : ∃ g, g = r / 2 ^ 63 := ⟨_, rfl⟩
  obtain ⟨x, hx⟩ : ∃ x, x = r / 2 ^ 52 % 2048 := ⟨_, rfl⟩
  obtain ⟨f, hf⟩ : ∃ f, f = r % 2 ^ 52 := ⟨_, rfl⟩
  rw [← hx, ← hf] at hb
  rw [← hg, ← hx, ← hf]
  have g2 : g < 2 := by omega
  have x2 : x < 2048 := by omega
  have f2 : f < 2 ^ 52 := by omega
  have hgr : r = g * 2 ^ 63 + x * 2 ^ 52 + f := by omega
  clear hg hx hf
  unfold refN
  by_cases h1 : x = 2047
  · rw [if_pos h1]
    subst h1
    have f0 : f = 0 := by
      rw [decide_eq_true rfl, Bool.true_and] at hb
      have := of_decide_eq_false hb.symm
      omega
    subst f0
    rcases (show g = 0 ∨ g = 1 by omega) with rfl | rfl
    · subst hgr; decide +kernel
    · subst hgr; decide +kernel
  · rw [if_neg h1]
    by_cases h2 : x = 0 ∧ f = 0
    · rw [if_pos h2]
      obtain ⟨rfl, rfl⟩ := h2
      rcases (show g = 0 ∨ g = 1 by omega) with rfl | rfl
      · subst hgr; decide +kernel
      · subst hgr; decide +kernel
    · rw [if_neg h2]
      by_cases h3 : (897 ≤ x ∧ x ≤ 1150) ∧ f % 2 ^ 29 = 0
      · rw [if_pos h3, hgr]
        exact nar_one g2 h3.1.1 h3.1.2 f2 h3.2
      · rw [if_neg h3]
        by_cases h4 : (x < 897 ∧ 874 ≤ x) ∧ (f + 2 ^ 52) % 2 ^ (926 - x) = 0
        · rw [if_pos h4, hgr]
          exact nar_two g2 h4.1.2 h4.1.1 f2 h4.2
        · rw [if_neg h4]
          cases hq : narB r with
          | none => rfl
          | some n => exact (nar_none hr hn hq g2 x2 f2 hgr h1 h2 h3 h4).elim
end Go.Proofs.YteigbejidfkhpaaDoor

/- The reference's Narrow: its walk. -/
namespace Go.Proofs.YteigbejidfkhpaaDoor
open Go Go.RowKit
set_option linter.unusedSimpArgs false
set_option linter.unusedVariables false

def nrV : Option Nat → Value
  | some n => .tuple #[.int .u32 n, .bool true]
  | none => .tuple #[.int .u32 0, .bool false]
/-- 'or' of numbers whose bits stand apart. -/
theorem or_apart32 (a b k : Nat) (hb : b < 2 ^ k) (hs : a * 2 ^ k + b < 4294967296) : bits BinOp.or IntKind.u32 ((a * 2 ^ k : Nat) : Int) (b : Int) = ((a * 2 ^ k + b : Nat) : Int) := by
  have e32 : IntKind.u32.bits = 32 := rfl
  have h3 : (a * 2 ^ k) ||| b = a * 2 ^ k + b := by
    have := Nat.shiftLeft_add_eq_or_of_lt hb a
    rw [Nat.shiftLeft_eq] at this
    exact this.symm
  have hm : (BitVec.ofInt IntKind.u32.bits ((a * 2 ^ k : Nat) : Int) ||| BitVec.ofInt IntKind.u32.bits (b : Int)).toNat = a * 2 ^ k + b := by
    rw [BitVec.toNat_or, BitVec.ofInt_natCast, BitVec.ofInt_natCast, BitVec.toNat_ofNat, BitVec.toNat_ofNat, e32, Nat.mod_eq_of_lt (by omega), Nat.mod_eq_of_lt (by omega), h3]
  show IntKind.u32.wrap (((BitVec.ofInt IntKind.u32.bits ((a * 2 ^ k : Nat) : Int) ||| BitVec.ofInt IntKind.u32.bits (b : Int)).toNat : Nat) : Int) = _
  rw [hm]
  show ((a * 2 ^ k + b : Nat) : Int) % 4294967296 = _
  omega
theorem or_apart64 (a b k : Nat) (hb : b < 2 ^ k) (hs : a * 2 ^ k + b < 18446744073709551616) : bits BinOp.or IntKind.u64 (b : Int) ((a * 2 ^ k : Nat) : Int) = ((a * 2 ^ k + b : Nat) : Int) := by
  have e64 : IntKind.u64.bits = 64 := rfl
  have h3 : b ||| (a * 2 ^ k) = a * 2 ^ k + b := by
    have := Nat.shiftLeft_add_eq_or_of_lt hb a
    rw [Nat.shiftLeft_eq] at this
    rw [Nat.or_comm]
    exact this.symm
  have hm : (BitVec.ofInt IntKind.u64.bits (b : Int) ||| BitVec.ofInt IntKind.u64.bits ((a * 2 ^ k : Nat) : Int)).toNat = a * 2 ^ k + b := by
    rw [BitVec.toNat_or, BitVec.ofInt_natCast, BitVec.ofInt_natCast, BitVec.toNat_ofNat, BitVec.toNat_ofNat, e64, Nat.mod_eq_of_lt (by omega), Nat.mod_eq_of_lt (by omega), h3]
  show IntKind.u64.wrap (((BitVec.ofInt IntKind.u64.bits (b : Int) ||| BitVec.ofInt IntKind.u64.bits ((a * 2 ^ k : Nat) : Int)).toNat : Nat) : Int) = _
  rw [hm]
  show ((a * 2 ^ k + b : Nat) : Int) % 18446744073709551616 = _
  omega
set_option maxRecDepth 100000 in
set_option maxHeartbeats 1000000 in
theorem rnX_nan {w : World} (r : Nat) (hr : r < 18446744073709551616) (hn : nanB r = true) :
    Calls Tryd.prog 34 #[.float .f64 r] w fun e w' => e = .returned (nrV (narB r)) ∧ w = w' := by
  have h := isNaN_c (w := w) r hr
  rw [hn] at h
  have e : narB r = some 2143289344 := by unfold narB; rw [if_pos hn]
  rw [e]
  clear e hn hr
  go_enter Tryd.func34, Tryd.ntmps34
  go_wp2_with fail
  refine h.mono ?_
  rintro e w1 ⟨rfl, rfl⟩
  go_wp2_with fail
  go_ret2
  exact ⟨rfl, rfl⟩
set_option maxRecDepth 100000 in
set_option maxHeartbeats 1000000 in
theorem rnX_inf {w : World} (r : Nat) (G S x f : Int) (h : Calls Tryd.prog 58 #[.float .f64 r] w fun e w' => e = .returned (.bool false) ∧ w = w')
    (eg : (r : Int) / 9223372036854775808 = G) (wg : IntKind.u32.wrap G = G) (es : IntKind.u32.wrap (G * 2147483648) = S) (ex : bits BinOp.and IntKind.u64 ((r : Int) / 4503599627370496) 2047 = x) (ef : bits BinOp.and IntKind.u64 (r : Int) 4503599627370495 = f) (wx : IntKind.i64.wrap x = x) (hx : x = 2047) (N : Int) (eo : bits BinOp.or IntKind.u32 S 2139095040 = N) :
    Calls Tryd.prog 34 #[.float .f64 r] w fun e w' => e = .returned (.tuple #[.int .u32 (N), .bool true]) ∧ w = w' := by
  subst hx
  have hB := bits_c (w := w) r
  go_enter Tryd.func34, Tryd.ntmps34
  go_wp2_with fail
  refine h.mono ?_
  rintro e w1 ⟨rfl, rfl⟩
  go_wp2_with fail
  refine hB.mono ?_
  rintro e w1 ⟨rfl, rfl⟩
  go_wp2_with fail
  go_ret2
  exact ⟨by first | rfl | (simp [*]; done), rfl⟩
set_option maxRecDepth 100000 in
set_option maxHeartbeats 1000000 in
theorem rnX_zero {w : World} (r : Nat) (G S x f : Int) (h : Calls Tryd.prog 58 #[.float .f64 r] w fun e w' => e = .returned (.bool false) ∧ w = w')
    (eg : (r : Int) / 9223372036854775808 = G) (wg : IntKind.u32.wrap G = G) (es : IntKind.u32.wrap (G * 2147483648) = S) (ex : bits BinOp.and IntKind.u64 ((r : Int) / 4503599627370496) 2047 = x) (ef : bits BinOp.and IntKind.u64 (r : Int) 4503599627370495 = f) (wx : IntKind.i64.wrap x = x) (hx : x = 0) (hf : f = 0) :
    Calls Tryd.prog 34 #[.float .f64 r] w fun e w' => e = .returned (.tuple #[.int .u32 (S), .bool true]) ∧ w = w' := by
  subst hx hf
  have hB := bits_c (w := w) r
  go_enter Tryd.func34, Tryd.ntmps34
  go_wp2_with fail
  refine h.mono ?_
  rintro e w1 ⟨rfl, rfl⟩
  go_wp2_with fail
  refine hB.mono ?_
  rintro e w1 ⟨rfl, rfl⟩
  go_wp2_with fail
  go_ret2
  exact ⟨by first | rfl | (simp [*]; done), rfl⟩
set_option maxRecDepth 100000 in
set_option maxHeartbeats 1000000 in
theorem rnX_one {w : World} (r : Nat) (G S x f : Int) (h : Calls Tryd.prog 58 #[.float .f64 r] w fun e w' => e = .returned (.bool false) ∧ w = w')
    (eg : (r : Int) / 9223372036854775808 = G) (wg : IntKind.u32.wrap G = G) (es : IntKind.u32.wrap (G * 2147483648) = S) (ex : bits BinOp.and IntKind.u64 ((r : Int) / 4503599627370496) 2047 = x) (ef : bits BinOp.and IntKind.u64 (r : Int) 4503599627370495 = f) (wx : IntKind.i64.wrap x = x) (h0 : 897 ≤ x) (h1 : x ≤ 1150) (em : bits BinOp.and IntKind.u64 f 536870911 = 0) (u y Y T q N : Int) (e1 : x - 1023 = u) (e2 : u + 127 = y) (e2w : IntKind.i64.wrap (u + 127) = y) (e3 : IntKind.u32.wrap y = y) (e4 : IntKind.u32.wrap (y * 8388608) = Y) (e5 : bits BinOp.or IntKind.u32 S Y = T) (e6 : IntKind.u32.wrap (f / 536870912) = q) (e7 : bits BinOp.or IntKind.u32 T q = N) :
    Calls Tryd.prog 34 #[.float .f64 r] w fun e w' => e = .returned (.tuple #[.int .u32 (N), .bool true]) ∧ w = w' := by
  have hB := bits_c (w := w) r
  go_enter Tryd.func34, Tryd.ntmps34
  go_wp2_with fail
  refine h.mono ?_
  rintro e w1 ⟨rfl, rfl⟩
  go_wp2_with fail
  refine hB.mono ?_
  rintro e w1 ⟨rfl, rfl⟩
  go_wp2_with fail
  go_ret2
  exact ⟨by first | rfl | (simp [*]; done), rfl⟩
set_option maxRecDepth 100000 in
set_option maxHeartbeats 1000000 in
theorem rnX_two {w : World} (r : Nat) (G S x f : Int) (h : Calls Tryd.prog 58 #[.float .f64 r] w fun e w' => e = .returned (.bool false) ∧ w = w')
    (eg : (r : Int) / 9223372036854775808 = G) (wg : IntKind.u32.wrap G = G) (es : IntKind.u32.wrap (G * 2147483648) = S) (ex : bits BinOp.and IntKind.u64 ((r : Int) / 4503599627370496) 2047 = x) (ef : bits BinOp.and IntKind.u64 (r : Int) 4503599627370495 = f) (wx : IntKind.i64.wrap x = x) (h0 : 874 ≤ x) (h1 : x < 897) (D A : Int) (e1 : 926 - x = D) (e2 : IntKind.u64.wrap D = D) (e3 : bits BinOp.or IntKind.u64 f 4503599627370496 = A) (e4 : bits BinOp.and IntKind.u64 A (IntKind.u64.wrap (IntKind.u64.wrap (2 ^ D.toNat) - 1)) = 0) (q N : Int) (e5 : A / 2 ^ D.toNat % 4294967296 = q) (e6 : bits BinOp.or IntKind.u32 S q = N) :
    Calls Tryd.prog 34 #[.float .f64 r] w fun e w' => e = .returned (.tuple #[.int .u32 (N), .bool true]) ∧ w = w' := by
  have hB := bits_c (w := w) r
  go_enter Tryd.func34, Tryd.ntmps34
  go_wp2_with fail
  refine h.mono ?_
  rintro e w1 ⟨rfl, rfl⟩
  go_wp2_with fail
  refine hB.mono ?_
  rintro e w1 ⟨rfl, rfl⟩
  go_wp2_with fail
  go_ret2
  exact ⟨by first | rfl | (simp [*]; done), rfl⟩
set_option maxRecDepth 100000 in
set_option maxHeartbeats 1000000 in
theorem rnX_n1 {w : World} (r : Nat) (G S x f : Int) (h : Calls Tryd.prog 58 #[.float .f64 r] w fun e w' => e = .returned (.bool false) ∧ w = w')
    (eg : (r : Int) / 9223372036854775808 = G) (wg : IntKind.u32.wrap G = G) (es : IntKind.u32.wrap (G * 2147483648) = S) (ex : bits BinOp.and IntKind.u64 ((r : Int) / 4503599627370496) 2047 = x) (ef : bits BinOp.and IntKind.u64 (r : Int) 4503599627370495 = f) (wx : IntKind.i64.wrap x = x) (h0 : 897 ≤ x) (h1 : x ≤ 1150) (Z : Int) (em : bits BinOp.and IntKind.u64 f 536870911 = Z) (hZ : ¬ Z = 0) :
    Calls Tryd.prog 34 #[.float .f64 r] w fun e w' => e = .returned (.tuple #[.int .u32 (0), .bool false]) ∧ w = w' := by
  have hb : (Z == 0) = false := beq_eq_false_iff_ne.2 hZ
  have hB := bits_c (w := w) r
  go_enter Tryd.func34, Tryd.ntmps34
  go_wp2_with fail
  refine h.mono ?_
  rintro e w1 ⟨rfl, rfl⟩
  go_wp2_with fail
  refine hB.mono ?_
  rintro e w1 ⟨rfl, rfl⟩
  go_wp2_with fail
  go_ret2
  exact ⟨by first | rfl | (simp [*]; done), rfl⟩
set_option maxRecDepth 100000 in
set_option maxHeartbeats 1000000 in
theorem rnX_n2 {w : World} (r : Nat) (G S x f : Int) (h : Calls Tryd.prog 58 #[.float .f64 r] w fun e w' => e = .returned (.bool false) ∧ w = w')
    (eg : (r : Int) / 9223372036854775808 = G) (wg : IntKind.u32.wrap G = G) (es : IntKind.u32.wrap (G * 2147483648) = S) (ex : bits BinOp.and IntKind.u64 ((r : Int) / 4503599627370496) 2047 = x) (ef : bits BinOp.and IntKind.u64 (r : Int) 4503599627370495 = f) (wx : IntKind.i64.wrap x = x) (h0 : 874 ≤ x) (h1 : x < 897) (D A : Int) (e1 : 926 - x = D) (e2 : IntKind.u64.wrap D = D) (e3 : bits BinOp.or IntKind.u64 f 4503599627370496 = A) (Z : Int) (e4 : bits BinOp.and IntKind.u64 A (IntKind.u64.wrap (IntKind.u64.wrap (2 ^ D.toNat) - 1)) = Z) (hZ : ¬ Z = 0) :
    Calls Tryd.prog 34 #[.float .f64 r] w fun e w' => e = .returned (.tuple #[.int .u32 (0), .bool false]) ∧ w = w' := by
  have hb : (Z == 0) = false := beq_eq_false_iff_ne.2 hZ
  have hB := bits_c (w := w) r
  go_enter Tryd.func34, Tryd.ntmps34
  go_wp2_with fail
  refine h.mono ?_
  rintro e w1 ⟨rfl, rfl⟩
  go_wp2_with fail
  refine hB.mono ?_
  rintro e w1 ⟨rfl, rfl⟩
  go_wp2_with fail
  go_ret2
  exact ⟨by first | rfl | (simp [*]; done), rfl⟩
set_option maxRecDepth 100000 in
set_option maxHeartbeats 1000000 in
theorem rnX_n3 {w : World} (r : Nat) (G S x f : Int) (h : Calls Tryd.prog 58 #[.float .f64 r] w fun e w' => e = .returned (.bool false) ∧ w = w')
    (eg : (r : Int) / 9223372036854775808 = G) (wg : IntKind.u32.wrap G = G) (es : IntKind.u32.wrap (G * 2147483648) = S) (ex : bits BinOp.and IntKind.u64 ((r : Int) / 4503599627370496) 2047 = x) (ef : bits BinOp.and IntKind.u64 (r : Int) 4503599627370495 = f) (wx : IntKind.i64.wrap x = x) (h0 : 0 < x) (h1 : x < 874) :
    Calls Tryd.prog 34 #[.float .f64 r] w fun e w' => e = .returned (.tuple #[.int .u32 (0), .bool false]) ∧ w = w' := by
  have hB := bits_c (w := w) r
  go_enter Tryd.func34, Tryd.ntmps34
  go_wp2_with fail
  refine h.mono ?_
  rintro e w1 ⟨rfl, rfl⟩
  go_wp2_with fail
  refine hB.mono ?_
  rintro e w1 ⟨rfl, rfl⟩
  go_wp2_with fail
  go_ret2
  exact ⟨by first | rfl | (simp [*]; done), rfl⟩
set_option maxRecDepth 100000 in
set_option maxHeartbeats 1000000 in
theorem rnX_n4 {w : World} (r : Nat) (G S x f : Int) (h : Calls Tryd.prog 58 #[.float .f64 r] w fun e w' => e = .returned (.bool false) ∧ w = w')
    (eg : (r : Int) / 9223372036854775808 = G) (wg : IntKind.u32.wrap G = G) (es : IntKind.u32.wrap (G * 2147483648) = S) (ex : bits BinOp.and IntKind.u64 ((r : Int) / 4503599627370496) 2047 = x) (ef : bits BinOp.and IntKind.u64 (r : Int) 4503599627370495 = f) (wx : IntKind.i64.wrap x = x) (h0 : 1150 < x) (h1 : ¬ x = 2047) :
    Calls Tryd.prog 34 #[.float .f64 r] w fun e w' => e = .returned (.tuple #[.int .u32 (0), .bool false]) ∧ w = w' := by
  have hb : (x == 2047) = false := beq_eq_false_iff_ne.2 h1
  have hB := bits_c (w := w) r
  go_enter Tryd.func34, Tryd.ntmps34
  go_wp2_with fail
  refine h.mono ?_
  rintro e w1 ⟨rfl, rfl⟩
  go_wp2_with fail
  refine hB.mono ?_
  rintro e w1 ⟨rfl, rfl⟩
  go_wp2_with fail
  go_ret2
  exact ⟨by first | rfl | (simp [*]; done), rfl⟩
set_option maxRecDepth 100000 in
set_option maxHeartbeats 1000000 in
theorem rnX_n5 {w : World} (r : Nat) (G S x f : Int) (h : Calls Tryd.prog 58 #[.float .f64 r] w fun e w' => e = .returned (.bool false) ∧ w = w')
    (eg : (r : Int) / 9223372036854775808 = G) (wg : IntKind.u32.wrap G = G) (es : IntKind.u32.wrap (G * 2147483648) = S) (ex : bits BinOp.and IntKind.u64 ((r : Int) / 4503599627370496) 2047 = x) (ef : bits BinOp.and IntKind.u64 (r : Int) 4503599627370495 = f) (wx : IntKind.i64.wrap x = x) (hx : x = 0) (hf : ¬ f = 0) :
    Calls Tryd.prog 34 #[.float .f64 r] w fun e w' => e = .returned (.tuple #[.int .u32 (0), .bool false]) ∧ w = w' := by
  subst hx
  have hb : (f == 0) = false := beq_eq_false_iff_ne.2 hf
  have hB := bits_c (w := w) r
  go_enter Tryd.func34, Tryd.ntmps34
  go_wp2_with fail
  refine h.mono ?_
  rintro e w1 ⟨rfl, rfl⟩
  go_wp2_with fail
  refine hB.mono ?_
  rintro e w1 ⟨rfl, rfl⟩
  go_wp2_with fail
  go_ret2
  exact ⟨by first | rfl | (simp [*]; done), rfl⟩
end Go.Proofs.YteigbejidfkhpaaDoor

/- The reference's Narrow, whole: the program's. -/
namespace Go.Proofs.YteigbejidfkhpaaDoor
open Go Go.RowKit
set_option linter.unusedSimpArgs false
set_option linter.unusedVariables false

theorem pow_d (d : Nat) (h0 : 30 ≤ d) (h1 : d ≤ 52) : IntKind.u64.wrap (IntKind.u64.wrap (2 ^ d) - 1) = ((2 ^ d - 1 : Nat) : Int) := by
  have h2 : 2 ^ d ≤ 2 ^ 52 := Nat.pow_le_pow_right (by omega) h1
  have h3 : 0 < 2 ^ d := Nat.two_pow_pos d
  have hc : ((2 : Int) ^ d) = ((2 ^ d : Nat) : Int) := by rw [Int.natCast_pow]; rfl
  rw [hc]
  obtain ⟨P, hP⟩ : ∃ P, P = 2 ^ d := ⟨_, rfl⟩
  rw [← hP] at h2 h3 ⊢
  show ((P : Int) % 18446744073709551616 - 1) % 18446744073709551616 = ((P - 1 : Nat) : Int)
  omega
theorem refNarrow_c {w : World} (r : Nat) (hr : r < 18446744073709551616) :
    Calls Tryd.prog 34 #[.float .f64 r] w fun e w' => e = .returned (nrV (narB r)) ∧ w = w' := by
  cases hn : nanB r with
  | true => exact rnX_nan r hr hn
  | false =>
  have h := isNaN_c (w := w) r hr
  rw [hn] at h
  rw [narB_ref hr hn]
  clear hn
  have eg : (r : Int) / 9223372036854775808 = ((r / 2 ^ 63 : Nat) : Int) := by omega
  have ex : bits BinOp.and IntKind.u64 ((r : Int) / 4503599627370496) 2047 = ((r / 2 ^ 52 % 2048 : Nat) : Int) := and_mask (r / 4503599627370496) 11 (by omega) (by omega)
  have ef : bits BinOp.and IntKind.u64 (r : Int) 4503599627370495 = ((r % 2 ^ 52 : Nat) : Int) := and_mask r 52 hr (by omega)
  have g2 : r / 2 ^ 63 < 2 := by omega
  have x2 : r / 2 ^ 52 % 2048 < 2048 := by omega
  have f2 : r % 2 ^ 52 < 2 ^ 52 := by omega
  generalize r / 2 ^ 63 = g at eg g2 ⊢
  generalize r / 2 ^ 52 % 2048 = x at ex x2 ⊢
  generalize r % 2 ^ 52 = f at ef f2 ⊢
  have wg : IntKind.u32.wrap (g : Int) = g := IntWalk.u32_in _ (by omega)
  have es : IntKind.u32.wrap ((g : Int) * 2147483648) = ((g * 2 ^ 31 : Nat) : Int) := by
    show ((g : Int) * 2147483648) % 4294967296 = _
    omega
  have wx : IntKind.i64.wrap (x : Int) = x := IntWalk.i64_in _ (by omega)
  unfold refN
  by_cases h1 : x = 2047
  · rw [if_pos h1]
    exact rnX_inf r g _ x f h eg wg es ex ef wx (by omega) _ (or_apart32 g 2139095040 31 (by decide) (by omega))
  rw [if_neg h1]
  by_cases h2 : x = 0 ∧ f = 0
  · rw [if_pos h2]
    exact rnX_zero r g _ x f h eg wg es ex ef wx (by omega) (by omega)
  rw [if_neg h2]
  have em : bits BinOp.and IntKind.u64 (f : Int) 536870911 = ((f % 2 ^ 29 : Nat) : Int) := and_mask f 29 (by omega) (by omega)
  by_cases h3 : (897 ≤ x ∧ x ≤ 1150) ∧ f % 2 ^ 29 = 0
  · rw [if_pos h3]
    obtain ⟨⟨h30, h31⟩, h32⟩ := h3
    rw [h32] at em
    have e7 := or_apart32 (g * 256 + (x - 896)) (f / 2 ^ 29) 23 (by omega) (by omega)
    rw [show (g * 256 + (x - 896)) * 2 ^ 23 = g * 2 ^ 31 + (x - 896) * 2 ^ 23 by omega] at e7
    refine rnX_one r g _ x f h eg wg es ex ef wx (by omega) (by omega) em ((x : Int) - 1023) ((x : Int) - 896) (((x - 896) * 2 ^ 23 : Nat) : Int) _ ((f / 2 ^ 29 : Nat) : Int) _ rfl (by omega) ?_ ?_ ?_ (or_apart32 g ((x - 896) * 2 ^ 23) 31 (by omega) (by omega)) ?_ e7
    · rw [show (x : Int) - 1023 + 127 = (x : Int) - 896 by omega]
      exact IntWalk.i64_in _ (by omega)
    · exact IntWalk.u32_in _ (by omega)
    · show ((x : Int) - 896) * 8388608 % 4294967296 = _
      omega
    · show ((f : Int) / 536870912) % 4294967296 = _
      omega
  rw [if_neg h3]
  by_cases h30 : 897 ≤ x ∧ x ≤ 1150
  · rw [if_neg (by omega)]
    exact rnX_n1 r g _ x f h eg wg es ex ef wx (by omega) (by omega) _ em (by omega)
  by_cases h4 : x < 897 ∧ 874 ≤ x
  · obtain ⟨d, hd⟩ : ∃ d, d = 926 - x := ⟨_, rfl⟩
    have hA := or_apart64 1 f 52 f2 (by omega)
    have hdi : (926 : Int) - (x : Int) = (d : Int) := by omega
    have wd : IntKind.u64.wrap (d : Int) = d := by show (d : Int) % 18446744073709551616 = _; omega
    have hA1 : (1 * 2 ^ 52 + f : Nat) = f + 2 ^ 52 := by omega
    rw [hA1] at hA
    have hZ : bits BinOp.and IntKind.u64 ((f + 2 ^ 52 : Nat) : Int) (IntKind.u64.wrap (IntKind.u64.wrap (2 ^ ((d : Int)).toNat) - 1)) = (((f + 2 ^ 52) % 2 ^ d : Nat) : Int) := by
      rw [Int.toNat_natCast, pow_d d (by omega) (by omega)]
      exact and_mask (f + 2 ^ 52) d (by omega) (by omega)
    rw [← hd]
    by_cases h5 : (f + 2 ^ 52) % 2 ^ d = 0
    · rw [if_pos ⟨h4, h5⟩]
      rw [h5] at hZ
      have hq : (f + 2 ^ 52) / 2 ^ d < 2 ^ 31 := by
        have h6 : 2 ^ 30 ≤ 2 ^ d := Nat.pow_le_pow_right (by omega) (by omega)
        have h7 := Nat.div_le_div_left h6 (Nat.two_pow_pos 30) (a := f + 2 ^ 52)
        omega
      refine rnX_two r g _ x f h eg wg es ex ef wx (by omega) (by omega) d _ hdi wd hA hZ (((f + 2 ^ 52) / 2 ^ d : Nat) : Int) _ ?_ (or_apart32 g ((f + 2 ^ 52) / 2 ^ d) 31 hq (by omega))
      rw [Int.toNat_natCast, show ((2 : Int) ^ d) = ((2 ^ d : Nat) : Int) by rw [Int.natCast_pow]; rfl, ← Int.natCast_ediv]
      generalize (f + 2 ^ 52) / 2 ^ d = q at hq
      omega
    · rw [if_neg (fun h => h5 h.2)]
      exact rnX_n2 r g _ x f h eg wg es ex ef wx (by omega) (by omega) d _ hdi wd hA _ hZ (by omega)
  · rw [if_neg (fun h => h4 h.1)]
    by_cases h6 : x = 0
    · exact rnX_n5 r g _ x f h eg wg es ex ef wx (by omega) (by omega)
    · by_cases h7 : x < 874
      · exact rnX_n3 r g _ x f h eg wg es ex ef wx (by omega) (by omega)
      · exact rnX_n4 r g _ x f h eg wg es ex ef wx (by omega) (by omega)
end Go.Proofs.YteigbejidfkhpaaDoor

/- The reference's Put, of a valid list. -/
namespace Go.Proofs.YteigbejidfkhpaaDoor
open Go Go.RowKit Go.Sort
set_option linter.unusedSimpArgs false
set_option linter.unusedVariables false

set_option maxRecDepth 100000 in
set_option maxHeartbeats 4000000 in
theorem refPut_c {w : World} {base : Nat} {v vl : Value} {l : List UInt8} {ps : List Prp} (h : RB w v l) (hl : l.length ≤ 17592186044416) (hp : RPr w vl ps) (hsz : ∀ p ∈ ps, p.nm.size ≤ 140737488351232) (hr : ∀ p ∈ ps, p.r < 18446744073709551616) (hv : validB ps = true) :
    Calls Tryd.prog 15 #[v, vl] w fun e w' => ∃ v', e = .returned (.tuple #[v', .int .i64 0]) ∧ OB w' w.heap.size v' (l ++ beB (propsB ps).length 4 ++ propsB ps) ∧ Below w.heap.size w w' := by
  have HV := Lib.hid (refValid_c hp (fun p h => ⟨hsz p h, hr p h⟩))
  rw [hv] at HV
  obtain ⟨A, c, rfl, hnc, hcell⟩ := props_at hp
  have HC := Lib.hid hcell
  have HS := Lib.hid hsz
  have HR := Lib.hid hr
  have HVP := Lib.hid (valid_all hv)
  have H16 := Lib.hid (valid_len hv)
  have H := Lib.hid h
  have qs := store_float (P := Tryd.prog)
  clear h hp hcell hsz hr hv
  go_enter Tryd.func15, Tryd.ntmps15
  go_wp2_with fail
  refine (HV.out).mono ?_
  rintro e w1 ⟨rfl, b1⟩
  go_wp2_with fail
  go_loopw [6, 17] (fun x i wr => ∃ k : Nat, k ≤ ps.length ∧ i = .int .i64 k ∧ Hid (OB wr w.heap.size x (propsB (ps.take k))) ∧ Below w.heap.size w wr) (fun _ i _ => ps.length - (intOf i).toNat)
  case atStart => exact ⟨0, Nat.zero_le _, rfl, Lib.hid (ob_nil _ _), b1⟩
  case round =>
    obtain ⟨k, hk, rfl, O1, b2⟩ := hrel
    clear b1
    by_cases hlt : k < ps.length
    · obtain ⟨p, hp⟩ : ∃ p, ps[k]? = some p := ⟨_, List.getElem?_eq_getElem hlt⟩
      obtain ⟨a, rfl, q0, q1, q2, q3, q4⟩ := HC.out k p hp
      have p0 := cell_below b2 (World.block_lt_of_cell? w _ q0) q0
      have p1 := cell_below b2 (World.block_lt_of_cell? w _ q1) q1
      have p2 := cell_below b2 (World.block_lt_of_cell? w _ q2) q2
      have p3 := cell_below b2 (World.block_lt_of_cell? w _ q3) q3
      have p4 := cell_below b2 (World.block_lt_of_cell? w _ q4) q4
      have hk16 : (k : Int) < 16 := by have := H16.out; omega
      have HP := Lib.hid hp
      clear hp q0 q1 q2 q3 q4
      have hns : p.nm.size ≤ 16 := by
        have hvp := (HVP.out p (List.mem_of_getElem? HP.out)).1
        unfold nameB at hvp
        simp only [Bool.and_eq_true, decide_eq_true_eq] at hvp
        exact hvp.1.2
      have hz : IntKind.u8.wrap ((p.nm.size : Nat) : Int) = ((UInt8.ofNat p.nm.size).toNat : Int) := wrap_byte _ (by omega)
      have HZ := Lib.hid hz
      clear hz
      have hzI : ((p.nm.size : Nat) : Int) ≤ 16 := by omega
      have hz0 : (0 : Int) ≤ ((p.nm.size : Nat) : Int) := by omega
      have HPB0 := Lib.hid (pb_drew (pb_new wr p))
      have HO1 := Lib.hid (fun o : Obj => (own_drew (O1.out.alloc (.cells #[.string p.nm, .int .i64 p.k, .int .i64 p.n, .string p.t, .float .f64 p.r] 48))).alloc o)
      have hW0 : w.heap.size ≤ (wr.alloc (.cells #[.string p.nm, .int .i64 p.k, .int .i64 p.n, .string p.t, .float .f64 p.r] 48)).drew.heap.size := Nat.le_trans b2.size (by show _ ≤ (wr.heap.push _).size; simp)
      have B0 := Lib.hid ((b2.alloc b2.size (.cells #[.string p.nm, .int .i64 p.k, .int .i64 p.n, .string p.t, .float .f64 p.r] 48)).drew)
      have HLK := Lib.hid (propsB_len (ps.take k) (fun q hq => HVP.out q (List.mem_of_mem_take hq)))
      have HTK := Lib.hid (show (ps.take k).length ≤ 16 by have := H16.out; rw [List.length_take]; omega)
      obtain ⟨s0, _, _, _, _⟩ := pb_facts HPB0.out
      go_upto_region 7 with fail
      go_region_held3 (fun w' => w'.cell? ⟨wr.heap.size, 0, none⟩ = some (.string p.nm))
        (first | exact s0 | go_keep)
        (first
          | (refine step_app_s (w0 := w) (base := w.heap.size) (l := propsB (ps.take k) ++ [UInt8.ofNat p.nm.size]) rfl (.tmp 27) (.tmp 29) rfl p.nm rfl rfl O2.out B2 B2.size (by have := HLK.out; have := HTK.out; simp; omega) ?_; intro v3 w3 o3 B3 g3; have HPB3 := Lib.hid (pb_grown HPB2.out O2.out g3); have s0 := (pb_facts HPB3.out).1; have O3 := Lib.hid o3; clear o3)
          | (refine step_app_b (w0 := w) (base := w.heap.size) (l := propsB (ps.take k)) (m := [UInt8.ofNat p.nm.size]) rfl (.tmp 21) (.tmp 26) rfl rfl rfl (HO1.out _) (rb_at1 _ _ _ HZ.out) (B0.out.alloc hW0 _) (Nat.le_trans hW0 (by show _ ≤ (Array.push _ _).size; simp)) (by have := HLK.out; have := HTK.out; simp; omega) ?_; intro v2 w2 o2 B2 g2 _; have HPB2 := Lib.hid (pb_grown (pb_alloc HPB0.out _) (HO1.out _) g2); have s0 := (pb_facts HPB2.out).1; have O2 := Lib.hid o2; clear o2 g2))
      have hgd := (HVP.out p (List.mem_of_getElem? HP.out)).2
      have hrl := HR.out p (List.mem_of_getElem? HP.out)
      have HRL := Lib.hid hrl
      have hts : ps.take (k + 1) = ps.take k ++ [p] := by rw [List.take_add_one, HP.out]; rfl
      have HTS := Lib.hid hts
      have HLK3 : Hid ((propsB (ps.take k) ++ [UInt8.ofNat p.nm.size] ++ p.nm.data.toList).length ≤ 20000) := Lib.hid (by have := HLK.out; have := HTK.out; simp only [List.length_append, List.length_cons, List.length_nil, ba_size]; omega)
      obtain ⟨L, hL⟩ : ∃ L, L = propsB (ps.take k) ++ [UInt8.ofNat p.nm.size] ++ p.nm.data.toList := ⟨_, rfl⟩
      have hfin : ∀ (wf : World) (vf : Value), OB wf w.heap.size vf (L ++ valB p) → OB wf w.heap.size vf (propsB (ps.take (k + 1))) := by
        intro wf vf h
        rw [hL] at h
        rw [HTS.out, propsB_snoc]
        unfold propB
        simpa using h
      rw [← hL] at O3 HLK3
      have HFIN := Lib.hid hfin
      clear hL hts hrl hfin O1 HO1 HLK HTK B0 HPB0 HPB2 O2 B2 g3 HZ hzI hz0 s0 p0 p1 p2 p3 p4 hns
      obtain ⟨_, s1, s2, s3, s4⟩ := pb_facts HPB3.out
      have hs3 : w.heap.size ≤ w3.heap.size := B3.size
      rcases good_of hgd with ⟨hk1, _, _⟩ | ⟨hk1, _, _, hn01⟩ | ⟨hk1, _, _, ht⟩ | ⟨hk1, hx1, hx2, hx3⟩
      · rw [hk1] at s1
        have hvb : valB p = 108 :: beB (p.n % 18446744073709551616).toNat 8 := by unfold valB; rw [if_pos hk1]
        have HVB := Lib.hid hvb
        clear hk1 hgd s3 s4 hvb
        go_upto_region 10 with fail
        have s2 := (pb_facts (pb_drew HPB3.out)).2.2.1
        go_region_held3 (fun w' => w'.cell? ⟨wr.heap.size, 2, none⟩ = some (.int .i64 p.n))
          (first | exact s2 | go_keep)
          (first
            | (go_at_call 20; refine (refBigK_c2 (base := w.heap.size) O4.out B4.size (by have := HLK3.out; simp; omega) (p.n % 18446744073709551616).toNat 8 (by omega) (by omega) _ 8 (wrap_u64 _) rfl).mono ?_; rintro e w5 ⟨v5, rfl, o5, b5, k5⟩; have B5 := B4.trans b5; have HPB5 := Lib.hid (pb_keeps HPB4.out k5); have s2 := (pb_facts HPB5.out).2.2.1; have O5 := Lib.hid o5; clear o5)
            | (refine step_app_b (w0 := w) (base := w.heap.size) (l := L) (m := [108]) rfl (.tmp 36) (.tmp 37) rfl rfl rfl ((own_drew O3.out).alloc _) (rb_at0 108 _ rfl) (B3.drew.alloc B3.size _) (Nat.le_trans B3.size (by show _ ≤ (Array.push _ _).size; simp)) (by have := HLK3.out; simp; omega) ?_; intro v4 w4 o4 B4 g4 _; have HPB4 := Lib.hid (pb_grown (pb_alloc (pb_drew HPB3.out) _) ((own_drew O3.out).alloc _) g4); have s2 := (pb_facts HPB4.out).2.2.1; have O4 := Lib.hid o4; clear o4 g4))
        go_wp2
        go_roundw
        case rel => exact ⟨k + 1, by omega, by go_num, Lib.hid (HFIN.out _ _ (by rw [HVB.out]; have := O5.out; simpa using this)), B5⟩
        case measure => simp [intOf]; omega
      · have h1 : ¬ p.k = 1 := by omega
        rw [hk1] at s1
        rcases hn01 with hn | hn
        · have hvb : valB p = [116, 0] := by unfold valB; rw [if_neg h1, if_pos hk1, hn]; rfl
          have HVB := Lib.hid hvb
          rw [hn] at s2
          clear hk1 h1 hgd hvb hn s3 s4
          go_wp2_with (at_builtin; refine app_b (w0 := w) (base := w.heap.size) (l := L) (m := [116, 0]) rfl (.tmp 46) (.tmp 51) rfl rfl rfl (O3.out.alloc _) (rb_two w3 116 0) (B3.alloc hs3 _) (by simp; omega) (by have := HLK3.out; simp; omega) ?_; intro v4 w4 o4 B4 _ _; have O4 := Lib.hid o4; clear o4)
          go_roundw
          case rel => exact ⟨k + 1, by omega, by go_num, Lib.hid (HFIN.out _ _ (by rw [HVB.out]; exact O4.out)), B4⟩
          case measure => simp [intOf]; omega
        · have hvb : valB p = [116, 1] := by unfold valB; rw [if_neg h1, if_pos hk1, hn]; rfl
          have HVB := Lib.hid hvb
          rw [hn] at s2
          clear hk1 h1 hgd hvb hn s3 s4
          go_wp2_with (at_builtin; refine app_b (w0 := w) (base := w.heap.size) (l := L) (m := [116, 1]) rfl (.tmp 46) (.tmp 51) rfl rfl rfl (O3.out.alloc _) (rb_two w3 116 1) (B3.alloc hs3 _) (by simp; omega) (by have := HLK3.out; simp; omega) ?_; intro v4 w4 o4 B4 _ _; have O4 := Lib.hid o4; clear o4)
          go_roundw
          case rel => exact ⟨k + 1, by omega, by go_num, Lib.hid (HFIN.out _ _ (by rw [HVB.out]; exact O4.out)), B4⟩
          case measure => simp [intOf]; omega
      · have h1 : ¬ p.k = 1 := by omega
        have h2 : ¬ p.k = 2 := by omega
        have hvb : valB p = 83 :: (beB p.t.size 4 ++ p.t.data.toList) := by unfold valB; rw [if_neg h1, if_neg h2, if_pos hk1]
        have HVB := Lib.hid hvb
        have htI : (p.t.size : Int) ≤ 256 := by omega
        rw [hk1] at s1
        clear hk1 h1 h2 hgd hvb s4 s2 ht
        go_upto_region 14 with fail
        have s3 := (pb_facts (pb_drew HPB3.out)).2.2.2.1
        go_region_held3 (fun w' => w'.cell? ⟨wr.heap.size, 3, none⟩ = some (.string p.t))
          (first | exact s3 | go_keep)
          (first
            | (go_at_call 20; refine (refBigK_c2 (base := w.heap.size) O4.out B4.size (by have := HLK3.out; simp; omega) p.t.size 4 (by omega) (by omega) _ 4 (by first | rfl | exact IntWalk.u64_in _ (by omega)) rfl).mono ?_; rintro e w5 ⟨v5, rfl, o5, b5, k5⟩; have B5 := B4.trans b5; have HPB5 := Lib.hid (pb_keeps HPB4.out k5); have s3 := (pb_facts HPB5.out).2.2.2.1; have O5 := Lib.hid o5; clear o5)
            | (refine step_app_b (w0 := w) (base := w.heap.size) (l := L) (m := [83]) rfl (.tmp 55) (.tmp 56) rfl rfl rfl ((own_drew O3.out).alloc _) (rb_at0 83 _ rfl) (B3.drew.alloc B3.size _) (Nat.le_trans B3.size (by show _ ≤ (Array.push _ _).size; simp)) (by have := HLK3.out; simp; omega) ?_; intro v4 w4 o4 B4 g4 _; have HPB4 := Lib.hid (pb_grown (pb_alloc (pb_drew HPB3.out) _) ((own_drew O3.out).alloc _) g4); have s3 := (pb_facts HPB4.out).2.2.2.1; have O4 := Lib.hid o4; clear o4 g4))
        go_wp2_with (at_builtin; refine app_s (w0 := w) (base := w.heap.size) (l := L ++ [83] ++ beB p.t.size 4) rfl (.tmp 64) (.tmp 67) rfl p.t rfl rfl O5.out B5 B5.size (by have := HLK3.out; simp [beB_len]; omega) ?_; intro v6 w6 o6 B6 g6; have O6 := Lib.hid o6; clear o6)
        go_roundw
        case rel => exact ⟨k + 1, by omega, by go_num, Lib.hid (HFIN.out _ _ (by rw [HVB.out]; have := O6.out; simpa using this)), B6⟩
        case measure => simp [intOf]; omega
      · have h1 : ¬ p.k = 1 := by omega
        have h2 : ¬ p.k = 2 := by omega
        have h3 : ¬ p.k = 3 := by omega
        have hvb : valB p = realB p.r := by unfold valB; rw [if_neg h1, if_neg h2, if_neg h3]
        have HVB := Lib.hid hvb
        rw [hk1] at s1
        clear hk1 h1 h2 h3 hgd hvb s2 s3 hx1 hx2 hx3
        have HNW := Lib.hid (refNarrow_c (w := w3) p.r HRL.out)
        unfold realB at HVB
        cases hn : narB p.r with
        | some n =>
          rw [hn] at HNW HVB
          rw [show nrV (some n) = .tuple #[.int .u32 n, .bool true] from rfl] at HNW
          have HN32 := Lib.hid (narB_lt hn)
          clear hn
          go_wp2_with fail
          refine (HNW.out).mono ?_
          rintro e w5 ⟨rfl, rfl⟩
          go_wp2_with (at_builtin; refine app_b (w0 := w) (base := w.heap.size) (l := L) (m := [102]) rfl (.tmp 79) (.tmp 80) rfl rfl rfl (O3.out.alloc _) (rb_one w3 102) (B3.alloc hs3 _) (by simp; omega) (by have := HLK3.out; simp; omega) ?_; intro v4 w4 o4 B4 _ _; have O4 := Lib.hid o4; clear o4)
          refine (refBigK_c2 (base := w.heap.size) O4.out B4.size (by have := HLK3.out; simp; omega) n 4 (by have := HN32.out; omega) (by omega) _ 4 (by first | rfl | exact IntWalk.u64_in _ (by have := HN32.out; omega)) rfl).mono ?_
          rintro e w5 ⟨v5, rfl, o5, b5, _⟩
          have B5 := B4.trans b5
          have O5 := Lib.hid o5
          clear o5
          go_wp2
          go_roundw
          case rel => exact ⟨k + 1, by omega, by go_num, Lib.hid (HFIN.out _ _ (by rw [HVB.out]; have := O5.out; simpa using this)), B5⟩
          case measure => simp [intOf]; omega
        | none =>
          rw [hn] at HNW HVB
          rw [show nrV none = .tuple #[.int .u32 0, .bool false] from rfl] at HNW
          clear hn
          go_wp2_with fail
          refine (HNW.out).mono ?_
          rintro e w5 ⟨rfl, rfl⟩
          go_upto_region 20 with fail
          have s4 := (pb_facts (pb_drew HPB3.out)).2.2.2.2
          go_region_held3 (fun w' => w'.cell? ⟨wr.heap.size, 4, none⟩ = some (.float .f64 p.r))
            (first | exact s4 | go_keep)
            (first
              | (go_at_call 20; refine (refBigK_c2 (base := w.heap.size) O4.out B4.size (by have := HLK3.out; simp; omega) p.r 8 HRL.out (by omega) _ 8 rfl rfl).mono ?_; rintro e w5 ⟨v5, rfl, o5, b5, k5⟩; have B5 := B4.trans b5; have HPB5 := Lib.hid (pb_keeps HPB4.out k5); have s4 := (pb_facts HPB5.out).2.2.2.2; have O5 := Lib.hid o5; clear o5)
              | (go_at_call 35; refine (bits_c p.r).mono ?_; rintro e w9 ⟨rfl, rfl⟩)
              | (refine step_app_b (w0 := w) (base := w.heap.size) (l := L) (m := [100]) rfl (.tmp 85) (.tmp 86) rfl rfl rfl ((own_drew O3.out).alloc _) (rb_at0 100 _ rfl) (B3.drew.alloc B3.size _) (Nat.le_trans B3.size (by show _ ≤ (Array.push _ _).size; simp)) (by have := HLK3.out; simp; omega) ?_; intro v4 w4 o4 B4 g4 _; have HPB4 := Lib.hid (pb_grown (pb_alloc (pb_drew HPB3.out) _) ((own_drew O3.out).alloc _) g4); have s4 := (pb_facts HPB4.out).2.2.2.2; have O4 := Lib.hid o4; clear o4 g4))
          go_wp2
          go_roundw
          case rel => exact ⟨k + 1, by omega, by go_num, Lib.hid (HFIN.out _ _ (by rw [HVB.out]; have := O5.out; simpa using this)), B5⟩
          case measure => simp [intOf]; omega
    · have hk2 : k = ps.length := by omega
      subst hk2
      have hta : ps.take ps.length = ps := List.take_of_length_le (Nat.le_refl _)
      rw [hta] at O1
      have hpl := propsB_len ps HVP.out
      have h16 := H16.out
      have HPL := Lib.hid (show (propsB ps).length ≤ 4448 by omega)
      obtain ⟨A1, c1, rfl, hc1, _⟩ := id (ob_rb O1.out)
      have hwr : w.heap.size ≤ wr.heap.size := b2.size
      clear hta hlt hk hpl h16
      have HR0 := Lib.hid (rb_below H.out b2)
      go_wp2_with (at_builtin; refine app_b (w0 := wr) (base := wr.heap.size) (l := []) (m := l) rfl (.tmp 94) (.tmp 95) rfl rfl rfl (World.ownsRow_made wr #[] 0 (Nat.le_refl _) (Nat.zero_le _) (by simp)) (rc_alloc HR0.out _) ((Below.refl _ _).alloc (Nat.le_refl _) _) (by simp) (by simp; omega) ?_; intro v4 w4 o4' b4 _ _; have o4 : OB w4 wr.heap.size v4 l := (by simpa using o4'); clear o4')
      refine (refBigK_c2 (base := wr.heap.size) o4 b4.size (by omega) (propsB ps).length 4 (by have := HPL.out; omega) (by omega) _ 4 (by first | rfl | exact IntWalk.u64_in _ (by have := HPL.out; omega)) rfl).mono ?_
      rintro e w5 ⟨v5, rfl, o5, b5, _⟩
      have O5 := Lib.hid o5
      have B5 := b4.trans b5
      have R5 := Lib.hid (rb_below (ob_rb O1.out) B5)
      clear o4 b4 o5 b5
      go_wp2_with (at_builtin; refine app_b (w0 := wr) (base := wr.heap.size) (l := l ++ beB (propsB ps).length 4) (m := propsB ps) rfl (.tmp 101) (.tmp 102) rfl rfl rfl O5.out R5.out B5 B5.size (by have := HPL.out; simp [beB_len]; omega) ?_; intro v6 w6 o6 b6 _ _; have O6 := Lib.hid o6; clear o6)
      go_ret2
      exact ⟨v6, rfl, own_lower O6.out hwr, b2.trans (b6.mono hwr)⟩
end Go.Proofs.YteigbejidfkhpaaDoor

/- The reference's Put, of a list that is not valid. -/
namespace Go.Proofs.YteigbejidfkhpaaDoor
open Go Go.RowKit
set_option linter.unusedSimpArgs false
set_option linter.unusedVariables false

theorem refPutBad_c {w : World} {v vl : Value} {ps : List Prp} (hp : RPr w vl ps) (hsz : ∀ p ∈ ps, p.nm.size ≤ 140737488351232 ∧ p.r < 18446744073709551616) (hv : validB ps = false) :
    Calls Tryd.prog 15 #[v, vl] w fun e w' => e = .returned (.tuple #[.slice none 0 0, .int .i64 36]) ∧ Below w.heap.size w w' := by
  have HV := Lib.hid (refValid_c hp hsz)
  rw [hv] at HV
  clear hp hsz hv
  go_enter Tryd.func15, Tryd.ntmps15
  go_wp2_with fail
  refine (HV.out).mono ?_
  rintro e w1 ⟨rfl, b1⟩
  go_wp2_with fail
  go_ret2
  exact ⟨rfl, b1⟩
end Go.Proofs.YteigbejidfkhpaaDoor

/- Layer 15: the reader's tables. -/
namespace Go.Proofs.YteigbejidfkhpaaDoor
open Go Go.RowKit
set_option linter.unusedSimpArgs false
set_option linter.unusedVariables false

/-- What a table's reading leaves. -/
def TabPost (w : World) (g : Nat) (o : Option (List Prp × ByteArray)) (e : Ending) (w' : World) : Prop :=
  w.grownBy w' (some g) ∧ match o with
    | some (ps, r) => ∃ v, e = .returned v ∧ OwnP w' w.heap.size v ps ∧ RD w' g r
    | none => e = StopE
theorem tab_none {w w' : World} {g : Nat} {o : Option (List Prp × ByteArray)} {e : Ending} (ho : o = none) (hg : w.grownBy w' (some g)) (he : e = StopE) : TabPost w g o e w' := by
  subst ho
  exact ⟨hg, he⟩
theorem tab_some {w w' : World} {g : Nat} {o : Option (List Prp × ByteArray)} {ps : List Prp} {r : ByteArray} {v : Value} (ho : o = some (ps, r)) (hg : w.grownBy w' (some g)) (hv : OwnP w' w.heap.size v ps) (hr : RD w' g r) : TabPost w g o (.returned v) w' := by
  subst ho
  exact ⟨hg, v, rfl, hv, hr⟩
structure TI (w1 wr : World) (g2 : Nat) (x : ByteArray) (v : Value) (acc : List Prp) (y : ByteArray) : Prop where
  rd : RD wr g2 y
  own : wr.ownsRow w1.heap.size 48 5 v acc.length (acc.flatMap Prp.cells)
  bel : Below w1.heap.size w1 wr
  tot : itemsP x.size x = (itemsP y.size y).map (acc ++ ·)
  len : acc.length + y.size ≤ x.size
  nms : ∀ p ∈ acc, p.nm.size ≤ 255
theorem below_grown {B : Nat} {a w w' : World} {g : Nat} (h : Below B a w) (hg : w.grownBy w' (some g)) (hB : B ≤ g) (hs : B ≤ w.heap.size) : Below B a w' :=
  h.trans ⟨hg.os, hg.tape, hg.output, hg.size, fun k hk => hg.block k (by omega) (fun e => by injection e with e; omega)⟩
theorem items_stop {x y : ByteArray} {acc : List Prp} (h : itemsP x.size x = (itemsP y.size y).map (acc ++ ·)) (hy : y.size ≠ 0) (hi : itemP y = none) : itemsP x.size x = none := by
  rw [h, itemsP_step hy, hi]
  rfl
theorem items_next {x y y2 : ByteArray} {acc : List Prp} {p : Prp} (h : itemsP x.size x = (itemsP y.size y).map (acc ++ ·)) (hy : y.size ≠ 0) (hi : itemP y = some (p, y2)) : itemsP x.size x = (itemsP y2.size y2).map ((acc ++ [p]) ++ ·) := by
  rw [h, itemsP_step hy, hi, Option.bind_some]
  cases itemsP y2.size y2 <;> simp

theorem own_set {w : World} {B e s n : Nat} {v : Value} {xs : List Value} (h : w.ownsRow B e s v n xs) {b : Nat} (hb : v.ownBlock ≠ some b) (j : Nat) (u : Value) : (w.setCell ⟨b, j, none⟩ u).ownsRow B e s v n xs :=
  own_other h (grownBy_set w b j u) (fun k hk e' => hb (by rw [hk]; injection e' with e'; rw [e']))
theorem own_rd {w w' : World} {B n g : Nat} {v : Value} {xs : List Value} {y : ByteArray} (h : w.ownsRow B 48 5 v n xs) (hr : RD w g y) (hg : w.grownBy w' (some g)) : w'.ownsRow B 48 5 v n xs :=
  own_other h hg (fun k hk e' => own_ne h hr (by decide) (by rw [hk]; injection e' with e'; rw [e']))
theorem rd_own {w w' : World} {B n g : Nat} {v : Value} {xs : List Value} {y : ByteArray} (hr : RD w g y) (h : w.ownsRow B 48 5 v n xs) (hg : w.grownBy w' v.ownBlock) : RD w' g y := by
  unfold RD
  rw [hg.block g (rd_lt hr) (fun e => own_ne h hr (by decide) e.symm)]
  exact hr
theorem own_ownP {w : World} {B : Nat} {v : Value} {ps : List Prp} (h : w.ownsRow B 48 5 v ps.length (ps.flatMap Prp.cells)) : OwnP w B v ps := by
  rcases id h.2 with ⟨rfl, h0⟩ | ⟨g, cap, cur, rfl, _⟩
  · exact .inl ⟨rfl, List.eq_nil_of_length_eq_zero h0⟩
  · obtain ⟨a, b, c, d, e, f⟩ := own_holdsK h
    exact .inr ⟨g, cap, rfl, b, c, e, f, a⟩
theorem ownP_lower {w : World} {B B' : Nat} {v : Value} {ps : List Prp} (h : OwnP w B v ps) (hb : B' ≤ B) : OwnP w B' v ps := by
  rcases h with h | ⟨g, cap, a, b, r⟩
  · exact .inl h
  · exact .inr ⟨g, cap, a, by omega, r⟩
theorem tabP_some {acc qs : List Prp} (hp : qs.Perm acc) (hx : acc.length < 20 → qs = sortP acc) (hv : validB qs = true) : tabP acc = some qs := by
  have hl := hp.length_eq
  have h16 := valid_len hv
  have e := hx (by omega)
  unfold tabP
  rw [if_pos ⟨by omega, by rw [← e]; exact hv⟩, e]
theorem tabP_none {acc qs : List Prp} (hp : qs.Perm acc) (hx : acc.length < 20 → qs = sortP acc) (hv : validB qs = false) : tabP acc = none := by
  unfold tabP
  refine if_neg fun ⟨h1, h2⟩ => ?_
  rw [← hx h1, hv] at h2
  cases h2
theorem below_set {B : Nat} {a w : World} (h : Below B a w) {n : Nat} (hn : B ≤ n) (j : Nat) (u : Value) : Below B a (w.setCell ⟨n, j, none⟩ u) := h.setCell hn u
theorem pb_set {w : World} {b : Nat} {nm t : ByteArray} {k n : Int} {r : Nat} {c1 c2 c3 c4 : Value} (h : w.heap[b]? = some (.cells #[.string nm, c1, c2, c3, c4] 48 (0, 0))) :
    PB ((((w.setCell ⟨b, 1, none⟩ (.int .i64 k)).setCell ⟨b, 2, none⟩ (.int .i64 n)).setCell ⟨b, 3, none⟩ (.string t)).setCell ⟨b, 4, none⟩ (.float .f64 r)) b ⟨nm, k, n, t, r⟩ := by
  unfold PB
  simp [World.setCell, Array.getElem?_modify, h]
theorem prop_new (w : World) (p : Prp) : RC (w.alloc (.cells #[.string p.nm, .int .i64 p.k, .int .i64 p.n, .string p.t, .float .f64 p.r] 48)) (.slice (some ⟨w.heap.size, 0, none⟩) 1 1) 1 5 (Prp.cells p) :=
  rc_new w 48 1 5 (Prp.cells p) rfl (by omega)

set_option maxRecDepth 1000000 in
set_option maxHeartbeats 8000000 in
theorem rdTable_c {w : World} {g : Nat} {s : ByteArray} (h : RD w g s) (hs : s.size ≤ 1073741824) :
    Calls Tryd.prog 38 #[.pointer (some ⟨g, 0, none⟩)] w (TabPost w g (tableP s)) := by
  have hL := rdLong_c h (by omega)
  have qs := store_float (P := Tryd.prog)
  have HGL := Lib.hid (rd_lt h)
  cases ho : longP s with
  | none =>
    have HL := Lib.hid (pr_no hL ho)
    have HT := Lib.hid (show tableP s = none by unfold tableP; rw [ho]; rfl)
    clear ho hL h
    go_enter Tryd.func38, Tryd.ntmps38
    go_wp2_with fail
    refine (HL.out).mono ?_
    rintro e w1 ⟨rfl, g1⟩
    go_wp2_with fail
    exact ⟨rfl, tab_none HT.out g1 rfl⟩
  | some p =>
    obtain ⟨x, r⟩ := p
    have HL := Lib.hid (pr_yes hL ho)
    have hxs := longP_size ho
    have HX := Lib.hid (show x.size ≤ 1073741824 by omega)
    have HT := Lib.hid (show tableP s = ((itemsP x.size x).bind tabP).map fun l => (l, r) by unfold tableP; rw [ho]; rfl)
    clear ho hL h hxs hs
    go_enter Tryd.func38, Tryd.ntmps38
    go_wp2_with fail
    refine (HL.out).mono ?_
    rintro e w1 ⟨rfl, r1, g1⟩
    have R1 := Lib.hid r1
    have G1 := Lib.hid g1
    clear r1 g1
    go_wp2_with fail
    go_loopg [4] x.size (fun kx v wr => ∃ (acc : List Prp) (y : ByteArray), y.size ≤ kx ∧ Hid (TI w1 wr w1.heap.size x v acc y))
    case atStart =>
      exact ⟨[], x, Nat.le_refl _, Lib.hid ⟨heap_alloc_new w1 _, (own_nil w1 w1.heap.size 48 5).alloc _, (Below.refl _ _).alloc (Nat.le_refl _) _, by simp, by simp, by simp⟩⟩
    case round =>
      obtain ⟨acc, y, hyk, HI⟩ := hrel
      obtain ⟨c0, f0⟩ := rd_facts HI.out.rd
      by_cases hy : y.size = 0
      · have htot := Lib.hid (show itemsP x.size x = some acc by rw [HI.out.tot, itemsP_nil hy]; simp)
        have hal := Lib.hid (show acc.length < 1152921504606846976 by have := HX.out; have := HI.out.len; omega)
        have HSO := Lib.hid (sortOwn_c HI.out.bel.size (own_ownP HI.out.own) hal.out)
        obtain rfl := ba_nil hy
        clear hy hyk
        go_wp2_with fail
        refine (HSO.out).mono ?_
        rintro e w2 ⟨rfl, qs', ho', hp', hx', hb'⟩
        have OW := Lib.hid ho'
        have PE := Lib.hid hp'
        have HXQ := Lib.hid hx'
        have BW := Lib.hid (HI.out.bel.trans hb')
        have HV := valid_c (ownP_rpr ho') (fun p hp => by have := HI.out.nms p (hp'.mem_iff.1 hp); omega)
        clear ho' hp' hx' hb'
        cases hv : validB qs' with
        | true =>
          rw [hv] at HV
          have HV' := Lib.hid HV
          have HVB := Lib.hid hv
          clear HV hv
          go_wp2_with fail
          refine (HV'.out).mono ?_
          rintro e w3 ⟨rfl, b3⟩
          go_wp2_with (go_at_call 49; refine unless_yes.mono ?_; rintro e w4 ⟨rfl, rfl⟩)
          go_ret
          have B3 := BW.out.trans (b3.mono BW.out.size)
          exact tab_some (by rw [HT.out, htot.out, Option.bind_some, tabP_some PE.out HXQ.out HVB.out]; rfl) (G1.out.trans (grownBy_below B3 _)) (ownP_lower (ownP_below OW.out b3) G1.out.size) (rd_below R1.out B3)
        | false =>
          rw [hv] at HV
          have HV' := Lib.hid HV
          have HVB := Lib.hid hv
          clear HV hv
          go_wp2_with fail
          refine (HV'.out).mono ?_
          rintro e w3 ⟨rfl, b3⟩
          go_wp2_with (go_at_call 49; refine unless_no.mono ?_; rintro e w4 ⟨rfl, rfl⟩)
          have B3 := BW.out.trans (b3.mono BW.out.size)
          exact ⟨rfl, tab_none (by rw [HT.out, htot.out, Option.bind_some, tabP_none PE.out HXQ.out HVB.out]; rfl) (G1.out.trans (grownBy_below B3 _)) rfl⟩
      · have hE := ne_nil y (by omega)
        have HY := Lib.hid hy
        have hS := rdShort_c HI.out.rd
        clear hy
        cases ho : shortP y with
        | none =>
          have HS := Lib.hid (pr_no hS ho)
          have HN := Lib.hid (show itemP y = none by unfold itemP; rw [ho]; rfl)
          clear hS ho
          go_wp2_with fail
          refine (HS.out).mono ?_
          rintro e w2 ⟨rfl, g2⟩
          go_wp2_with fail
          exact ⟨rfl, tab_none (by rw [HT.out, items_stop HI.out.tot HY.out HN.out]; rfl) (G1.out.trans (grownBy_below (below_grown HI.out.bel g2 (Nat.le_refl _) HI.out.bel.size) _)) rfl⟩
        | some q =>
          obtain ⟨nm, y1⟩ := q
          have HS := Lib.hid (pr_yes hS ho)
          have HO := Lib.hid ho
          have HY1 := Lib.hid (shortP_size ho)
          clear hS ho
          go_wp2_with fail
          refine (HS.out).mono ?_
          rintro e w2 ⟨rfl, r2, g2⟩
          have R2 := Lib.hid r2
          have G2 := Lib.hid g2
          clear r2 g2
          have hr2 : RD (w2.alloc (.cells #[.string nm, .int .i64 0, .int .i64 0, .string ⟨#[]⟩, .float .f64 0] 48)) w1.heap.size y1 := rd_below R2.out (below_al1 _ _)
          have hV := rdValue_c hr2 (by have := HX.out; have := HI.out.len; have := HY1.out.2; omega)
          have bal := Lib.hid (below_al1 w2 (.cells #[.string nm, .int .i64 0, .int .i64 0, .string ⟨#[]⟩, .float .f64 0] 48))
          have bI2 := Lib.hid (below_grown HI.out.bel G2.out (Nat.le_refl _) HI.out.bel.size)
          clear hr2
          cases ho2 : valP y1 with
          | none =>
            have HV := Lib.hid (pr_no hV ho2)
            have HN := Lib.hid (show itemP y = none by unfold itemP; rw [HO.out, Option.bind_some]; dsimp only; rw [ho2]; rfl)
            clear hV ho2
            go_wp2_with fail
            refine (HV.out).mono ?_
            rintro e w3 ⟨rfl, g3⟩
            go_wp2_with fail
            exact ⟨rfl, tab_none (by rw [HT.out, items_stop HI.out.tot HY.out HN.out]; rfl) (G1.out.trans (grownBy_below (below_grown (bI2.out.trans (bal.out.mono bI2.out.size)) g3 (Nat.le_refl _) (Nat.le_trans bI2.out.size bal.out.size)) _)) rfl⟩
          | some q2 =>
            obtain ⟨vv, y2⟩ := q2
            have HV := Lib.hid (pr_yes hV ho2)
            have HN := Lib.hid (show itemP y = some (⟨nm, vv.k, vv.n, vv.t, vv.r⟩, y2) by unfold itemP; rw [HO.out, Option.bind_some]; dsimp only; rw [ho2]; rfl)
            clear hV ho2
            unfold Vl.val at HV
            go_wp2_with fail
            refine (HV.out).mono ?_
            rintro e w3 ⟨rfl, r3, g3⟩
            have hpb : w3.heap[w2.heap.size]? = some (.cells #[.string nm, .int .i64 0, .int .i64 0, .string ⟨#[]⟩, .float .f64 0] 48 (0, 0)) := by
              rw [g3.block w2.heap.size (by simp) (fun e => by injection e with e; have := rd_lt R2.out; omega)]
              exact heap_alloc_new w2 _
            have q0 : w3.cell? ⟨w2.heap.size, 0, none⟩ = some (.string nm) := by simp [World.cell?, hpb]
            have q1 : w3.cell? ⟨w2.heap.size, 1, none⟩ = some (.int .i64 0) := by simp [World.cell?, hpb]
            have q2 : w3.cell? ⟨w2.heap.size, 2, none⟩ = some (.int .i64 0) := by simp [World.cell?, hpb]
            have q3 : w3.cell? ⟨w2.heap.size, 3, none⟩ = some (.string ⟨#[]⟩) := by simp [World.cell?, hpb]
            have q4 : w3.cell? ⟨w2.heap.size, 4, none⟩ = some (.float .f64 0) := by simp [World.cell?, hpb]
            have f0' : ∀ j, w3.frozen? ⟨w2.heap.size, j, none⟩ = false := fun j => by simp [World.frozen?, hpb]
            have f1 := f0' 1
            have f2 := f0' 2
            have f3 := f0' 3
            have f4 := f0' 4
            have HPB := Lib.hid hpb
            have R3 := Lib.hid r3
            have G3 := Lib.hid g3
            clear hpb f0' r3 g3
            go_upto_region 6 with fail
            obtain ⟨W, hW⟩ : ∃ W, W = ((((w3.setCell ⟨w2.heap.size, 1, none⟩ (.int .i64 vv.k)).setCell ⟨w2.heap.size, 2, none⟩ (.int .i64 vv.n)).setCell ⟨w2.heap.size, 3, none⟩ (.string vv.t)).setCell ⟨w2.heap.size, 4, none⟩ (.float .f64 vv.r)) := ⟨_, rfl⟩
            have o2 := own_rd HI.out.own HI.out.rd G2.out
            have hne : u4.ownBlock ≠ some w2.heap.size := fun e => by have := own_lt o2 e; omega
            have o3 := own_rd (o2.alloc (.cells #[.string nm, .int .i64 0, .int .i64 0, .string ⟨#[]⟩, .float .f64 0] 48)) (rd_below R2.out bal.out) G3.out
            have hbm : w1.heap.size ≤ w2.heap.size := bI2.out.size
            have hgp : w1.heap.size ≠ w2.heap.size := by have := rd_lt R2.out; omega
            have bI3 := below_grown (bI2.out.trans (bal.out.mono bI2.out.size)) G3.out (Nat.le_refl _) (Nat.le_trans bI2.out.size bal.out.size)
            have OW := Lib.hid (show W.ownsRow w1.heap.size 48 5 u4 acc.length (acc.flatMap Prp.cells) by rw [hW]; exact own_set (own_set (own_set (own_set o3 hne 1 _) hne 2 _) hne 3 _) hne 4 _)
            have RW := Lib.hid (show RD W w1.heap.size y2 by rw [hW]; exact rd_other (rd_other (rd_other (rd_other R3.out hgp 1 _) hgp 2 _) hgp 3 _) hgp 4 _)
            have BW := Lib.hid (show Below w1.heap.size w1 W by rw [hW]; exact below_set (below_set (below_set (below_set bI3 hbm 1 _) hbm 2 _) hbm 3 _) hbm 4 _)
            have hPB : PB W w2.heap.size ⟨nm, vv.k, vv.n, vv.t, vv.r⟩ := by rw [hW]; exact pb_set HPB.out
            rw [← hW]
            obtain ⟨p, hp⟩ : ∃ p : Prp, p = ⟨nm, vv.k, vv.n, vv.t, vv.r⟩ := ⟨_, rfl⟩
            rw [← hp] at HN hPB
            have hnm : p.nm.size ≤ 255 := by rw [hp]; exact HY1.out.1
            have HNM := Lib.hid hnm
            obtain ⟨s0, s1, s2, s3, s4⟩ := pb_facts hPB
            have HPW := Lib.hid hPB
            have hal := Lib.hid (show acc.length ≤ 1073741824 by have := HX.out; have := HI.out.len; omega)
            clear hW o2 hne o3 hbm hgp bI3 hPB hp hnm q0 q1 q2 q3 q4 f1 f2 f3 f4 bI2 bal HV HPB R3 G3 R2 G2
            go_wp2_with (at_builtin; refine app_own (w0 := w1) w1.heap.size 24 48 5 56 _ Tryd.underlying24 info_prop rfl (by decide) rfl (.tmp 21) (.tmp 23) rfl u4 _ acc.length 1 (acc.flatMap Prp.cells) (Prp.cells p) rfl rfl (OW.out.alloc _) (prop_new W p) (cells_one [p]) (BW.out.alloc BW.out.size _) (by have := hal.out; omega) (by have := hal.out; omega) (by have := BW.out.size; simp; omega) ?_; intro v5 w5 o5 b5 g5 _; have O5 := Lib.hid o5; have B5 := Lib.hid b5; have G5 := Lib.hid g5; clear o5 b5 g5)
            go_roundg y2.size
            case measure => have := (itemP_size HN.out).1; omega
            case rel =>
              have hi := itemP_size HN.out
              exact ⟨acc ++ [p], y2, Nat.le_refl _, Lib.hid ⟨rd_own (rd_below RW.out (below_al1 _ _)) (OW.out.alloc _) G5.out, by have := O5.out; rw [List.length_append, List.flatMap_append]; simpa using this, B5.out, items_next HI.out.tot HY.out HN.out, by have := HI.out.len; rw [List.length_append]; simp only [List.length_cons, List.length_nil]; omega, fun q hq => by
                rcases List.mem_append.1 hq with hq | hq
                · exact HI.out.nms q hq
                · rw [List.mem_singleton.1 hq]; exact HNM.out⟩⟩
end Go.Proofs.YteigbejidfkhpaaDoor

/- Layer 15: a reading that gives up: guard. -/
namespace Go.Proofs.YteigbejidfkhpaaDoor
open Go Go.RowKit
set_option linter.unusedSimpArgs false
set_option linter.unusedVariables false

set_option maxRecDepth 100000 in
theorem catch_idle (p : Addr) (w : World) :
    CallsD Tryd.prog 59 #[.pointer (some p)] .returning w fun e u' w' => e = .returned (.tuple #[]) ∧ u' = .returning ∧ w' = w := by
  refine callsD_of_wpS Tryd.func59 rfl fun c₀ cs hu => ?_
  apply wpS_seq
  apply wpS_region
  simp [wpOpsS, go_sem, recoverD, hu, Tryd.ntmps59, Exit.thenS]
  refine wpS_of_wp ?_
  go_wp2
  cases c₀
  simp_all [bodyPostS, results, Tryd.results59]
set_option maxRecDepth 100000 in
theorem catch_stop (p : Addr) (b : Bool) (older : List PanicEntry) (w : World) (hc : w.cell? p = some (.bool b)) (hz : w.frozen? p = false) :
    CallsD Tryd.prog 59 #[.pointer (some p)] (.panicking ({ v := .iface 87 (.agg #[]), recovered := false } :: older)) w fun e u' w' =>
      e = .returned (.tuple #[]) ∧ u' = .panicking ({ v := .iface 87 (.agg #[]), recovered := true } :: older) ∧ w' = (w.alloc (.cells #[] 87)).setCell p (.bool false) := by
  refine callsD_of_wpS Tryd.func59 rfl fun c₀ cs hu => ?_
  apply wpS_seq
  apply wpS_region
  simp [wpOpsS, go_sem, recoverD, hu, Tryd.ntmps59, Exit.thenS]
  refine wpS_of_wp ?_
  have hta : ∀ w : World, (Instr.typeAssert (.iface 87 (.agg #[])) 20 87 true).run Tryd.prog w = .ok (.tuple #[.agg #[], .bool true]) w := fun w => by kernel_rfl
  have hlt := World.block_lt_of_cell? w _ hc
  have hc' : (w.alloc (.cells #[] 87)).cell? p = some (.bool b) := ((below_al1 w _).cell hlt).trans hc
  have hz' : (w.alloc (.cells #[] 87)).frozen? p = false := ((below_al1 w _).frozen hlt).trans hz
  go_wp2
  simp_all [bodyPostS, results, Tryd.results59]

set_option maxRecDepth 100000 in
theorem guard_yes {c : FuncId} {cap : Array Value} {w : World} {R : World → Prop} (hen : ∀ args w, (callFunc c args).run Tryd.prog w = .ok (.enter c args) w)
    (h : Calls Tryd.prog c cap (w.alloc (.cells #[.bool false] 4)) fun e w' => e = .returned (.tuple #[]) ∧ R w' ∧ w'.cell? ⟨w.heap.size, 0, none⟩ = some (.bool false) ∧ w'.frozen? ⟨w.heap.size, 0, none⟩ = false) :
    Calls Tryd.prog 36 #[.func (.func c) #[] cap] w fun e w' => e = .returned (.bool true) ∧ ∃ w1, R w1 ∧ w' = w1.setCell ⟨w.heap.size, 0, none⟩ (.bool true) := by
  have hmf : ∀ (fn : Fn) (first cap : Array Value) (w : World), (Instr.makeFunc fn first cap).run Tryd.prog w = .ok (.func fn first cap) w := fun _ _ _ _ => rfl
  have H := Lib.hid h
  clear h
  go_enter_defers Tryd.func36, Tryd.ntmps36
  go_wp2
  refine (H.out).mono ?_
  rintro e w1 ⟨rfl, hR, hc, hf⟩
  have HR := Lib.hid hR
  clear hR
  go_wp2
  refine leaves_cons (f := 59) (args := #[.pointer (some ⟨w.heap.size, 0, none⟩)]) (by simp) (by simp [go_sem]) ?_
  refine (catch_idle ⟨w.heap.size, 0, none⟩ _).mono ?_
  rintro e u' w'' ⟨rfl, rfl, rfl⟩
  have hc2 : (w1.setCell ⟨w.heap.size, 0, none⟩ (.bool true)).cell? ⟨w.heap.size, 0, none⟩ = some (.bool true) := World.cell?_setCell_same' _ _ _ (by rw [hc]; rfl)
  simp [Leaves, settle, results, Tryd.results36, go_sem, hc2]
  exact ⟨w1, HR.out, rfl⟩
set_option maxRecDepth 100000 in
theorem guard_no {c : FuncId} {cap : Array Value} {w : World} {R : World → Prop} (hen : ∀ args w, (callFunc c args).run Tryd.prog w = .ok (.enter c args) w)
    (h : Calls Tryd.prog c cap (w.alloc (.cells #[.bool false] 4)) fun e w' => e = StopE ∧ R w' ∧ w'.cell? ⟨w.heap.size, 0, none⟩ = some (.bool false) ∧ w'.frozen? ⟨w.heap.size, 0, none⟩ = false) :
    Calls Tryd.prog 36 #[.func (.func c) #[] cap] w fun e w' => e = .returned (.bool false) ∧ ∃ w1, R w1 ∧ w' = (w1.alloc (.cells #[] 87)).setCell ⟨w.heap.size, 0, none⟩ (.bool false) := by
  have hmf : ∀ (fn : Fn) (first cap : Array Value) (w : World), (Instr.makeFunc fn first cap).run Tryd.prog w = .ok (.func fn first cap) w := fun _ _ _ _ => rfl
  have H := Lib.hid h
  clear h
  go_enter_defers Tryd.func36, Tryd.ntmps36
  go_wp2
  refine (H.out).mono ?_
  rintro e w1 ⟨rfl, hR, hc, hf⟩
  have HR := Lib.hid hR
  clear hR
  go_wp2
  refine leaves_cons (f := 59) (args := #[.pointer (some ⟨w.heap.size, 0, none⟩)]) (by simp) (by simp [go_sem]) ?_
  refine (catch_stop ⟨w.heap.size, 0, none⟩ false [] _ hc hf).mono ?_
  rintro e u' w'' ⟨rfl, rfl, rfl⟩
  have hlt := World.block_lt_of_cell? w1 _ hc
  have hc2 : ((w1.alloc (.cells #[] 87)).setCell ⟨w.heap.size, 0, none⟩ (.bool false)).cell? ⟨w.heap.size, 0, none⟩ = some (.bool false) := World.cell?_setCell_same' _ _ _ (by rw [((below_al1 w1 _).cell hlt).trans hc]; rfl)
  simp [Leaves, settle, results, Tryd.results36, go_sem, hc2]
  exact ⟨w1, HR.out, rfl⟩
end Go.Proofs.YteigbejidfkhpaaDoor

/- Layer 15: table.Take. -/
namespace Go.Proofs.YteigbejidfkhpaaDoor
open Go Go.RowKit
set_option linter.unusedSimpArgs false
set_option linter.unusedVariables false

set_option maxRecDepth 100000 in
theorem take1_yes {w : World} {a5 a6 : Addr} {G : Nat} {s r : ByteArray} {ps : List Prp} {c6 : Value} (h5 : w.cell? a5 = some (.pointer (some ⟨G, 0, none⟩))) (hG : RD w G s) (hs : s.size ≤ 1073741824) (h6 : w.cell? a6 = some c6) (f6 : w.frozen? a6 = false) (hne : a6.block ≠ G) (ho : tableP s = some (ps, r)) :
    Calls Tryd.prog 37 #[.pointer (some a5), .pointer (some a6)] w fun e w' => e = .returned (.tuple #[]) ∧ ∃ v w1, w.grownBy w1 (some G) ∧ OwnP w1 w.heap.size v ps ∧ RD w1 G r ∧ w' = w1.setCell a6 v := by
  have hT := rdTable_c hG hs
  rw [ho] at hT
  have HT := Lib.hid hT
  have HB := Lib.hid (World.block_lt_of_cell? w _ h6)
  have HN := Lib.hid hne
  clear hT ho hG hne
  go_enter Tryd.func37, Tryd.ntmps37
  go_wp2_with fail
  refine (HT.out).mono ?_
  rintro e w1 ⟨g1, v, rfl, hv, hr⟩
  have hb := g1.block a6.block HB.out (fun e => HN.out (by injection e))
  have h6' : w1.cell? a6 = some c6 := (World.cell?_of_block (w := w) hb).trans h6
  have f6' : w1.frozen? a6 = false := (World.frozen?_of_block (w := w) hb).trans f6
  have HV := Lib.hid hv
  have HR := Lib.hid hr
  have G1 := Lib.hid g1
  clear hb hv hr g1
  rcases HV.out with ⟨rfl, _⟩ | ⟨g, cap, rfl, _⟩
  · go_wp2_with fail
    go_end0
    exact ⟨rfl, _, w1, G1.out, HV.out, HR.out, rfl⟩
  · go_wp2_with fail
    go_end0
    exact ⟨rfl, _, w1, G1.out, HV.out, HR.out, rfl⟩
set_option maxRecDepth 100000 in
theorem take1_no {w : World} {a5 a6 : Addr} {G : Nat} {s : ByteArray} (h5 : w.cell? a5 = some (.pointer (some ⟨G, 0, none⟩))) (hG : RD w G s) (hs : s.size ≤ 1073741824) (ho : tableP s = none) :
    Calls Tryd.prog 37 #[.pointer (some a5), .pointer (some a6)] w fun e w' => e = StopE ∧ w.grownBy w' (some G) := by
  have hT := rdTable_c hG hs
  rw [ho] at hT
  have HT := Lib.hid hT
  clear hT ho hG
  go_enter Tryd.func37, Tryd.ntmps37
  go_wp2_with fail
  refine (HT.out).mono ?_
  rintro e w1 ⟨g1, rfl⟩
  go_wp2_with fail
  exact ⟨rfl, rfl, g1⟩

/-- What Take leaves. -/
def TakePost (w : World) (s : ByteArray) (e : Ending) (w' : World) : Prop :=
  Below w.heap.size w w' ∧ match tableP s with
    | some (ps, r) => ∃ v, e = .returned (.tuple #[v, .int .i64 ((s.size : Int) - r.size), .int .i64 0]) ∧ OwnP w' w.heap.size v ps
    | none => e = .returned (.tuple #[.slice none 0 0, .int .i64 0, .int .i64 11])
theorem take_none {w w' : World} {s : ByteArray} (ho : tableP s = none) (hb : Below w.heap.size w w') : TakePost w s (.returned (.tuple #[.slice none 0 0, .int .i64 0, .int .i64 11])) w' := by
  unfold TakePost
  rw [ho]
  exact ⟨hb, rfl⟩
theorem take_some {w w' : World} {s r : ByteArray} {ps : List Prp} {v : Value} (ho : tableP s = some (ps, r)) (hb : Below w.heap.size w w') (hv : OwnP w' w.heap.size v ps) : TakePost w s (.returned (.tuple #[v, .int .i64 ((s.size : Int) - r.size), .int .i64 0])) w' := by
  unfold TakePost
  rw [ho]
  exact ⟨hb, v, rfl, hv⟩
theorem tableP_size {s r : ByteArray} {ps : List Prp} (h : tableP s = some (ps, r)) : r.size ≤ s.size := by
  unfold tableP at h
  obtain ⟨p, h1, h2⟩ := Option.bind_eq_some_iff.1 h
  obtain ⟨x, y⟩ := p
  obtain ⟨l, _, h3⟩ := Option.map_eq_some_iff.1 h2
  injection h3 with _ h3
  have := longP_size h1
  dsimp only at h3
  rw [← h3]
  omega

theorem ownP_set {w : World} {B n : Nat} {v : Value} {ps : List Prp} (h : OwnP w B v ps) (hn : n < B) (j : Nat) (u : Value) : OwnP (w.setCell ⟨n, j, none⟩ u) B v ps := by
  rcases h with h | ⟨g, cap, a, b, c, d, e, f⟩
  · exact .inl h
  · have hb := Below.heap_setCell w ⟨n, j, none⟩ u g (show g ≠ n by omega)
    refine .inr ⟨g, cap, a, b, by simpa [World.setCell] using c, d, e, fun k hk => ?_⟩
    obtain ⟨x, y⟩ := f k hk
    exact ⟨(World.cell?_of_block (w := w) hb).trans x, (World.frozen?_of_block (w := w) hb).trans y⟩
/-- Three blocks, laid one behind the other. -/
theorem three_blocks (w : World) (a b c : Obj) : ((((w.alloc a).alloc b).alloc c).heap[w.heap.size]? = some a) ∧ ((((w.alloc a).alloc b).alloc c).heap[w.heap.size + 1]? = some b) ∧ ((((w.alloc a).alloc b).alloc c).heap[w.heap.size + 1 + 1]? = some c) ∧ (((w.alloc a).alloc b).alloc c).heap.size = w.heap.size + 3 := by
  have s1 : (w.alloc a).heap.size = w.heap.size + 1 := Array.size_push _
  have s2 : ((w.alloc a).alloc b).heap.size = w.heap.size + 1 + 1 := by rw [show ((w.alloc a).alloc b).heap.size = (w.alloc a).heap.size + 1 from Array.size_push _, s1]
  refine ⟨?_, ?_, ?_, ?_⟩
  · rw [heap_alloc_old _ _ (by omega), heap_alloc_old _ _ (by omega)]
    exact heap_alloc_new w a
  · rw [heap_alloc_old _ _ (by omega), ← s1]
    exact heap_alloc_new _ b
  · rw [← s2]
    exact heap_alloc_new _ c
  · rw [show (((w.alloc a).alloc b).alloc c).heap.size = ((w.alloc a).alloc b).heap.size + 1 from Array.size_push _, s2]

set_option maxRecDepth 1000000 in
set_option maxHeartbeats 4000000 in
theorem tTake_c {w : World} (s : ByteArray) (hs : s.size ≤ 1073741824) :
    Calls Tryd.prog 16 #[.string s] w (TakePost w s) := by
  have hmf : ∀ (fn : Fn) (first cap : Array Value) (w : World), (Instr.makeFunc fn first cap).run Tryd.prog w = .ok (.func fn first cap) w := fun _ _ _ _ => rfl
  have hsI : (s.size : Int) ≤ 1073741824 := by omega
  have hen : ∀ args w, (callFunc 37 args).run Tryd.prog w = .ok (.enter 37 args) w := fun args w => enters_of Tryd.func37 (by kernel_rfl) rfl args w
  obtain ⟨h0, h1, h2, h3⟩ := three_blocks w (.cells #[.string s] 68) (.cells #[.pointer (some ⟨w.heap.size, 0, none⟩)] 66) (.cells #[.slice none 0 0] 24)
  have hb : Below w.heap.size w (((w.alloc (.cells #[.string s] 68)).alloc (.cells #[.pointer (some ⟨w.heap.size, 0, none⟩)] 66)).alloc (.cells #[.slice none 0 0] 24)) := (((Below.refl _ _).alloc (Nat.le_refl _) _).alloc (by simp) _).alloc (by simp; omega) _
  obtain ⟨W3, hW3⟩ : ∃ W3, W3 = (((w.alloc (.cells #[.string s] 68)).alloc (.cells #[.pointer (some ⟨w.heap.size, 0, none⟩)] 66)).alloc (.cells #[.slice none 0 0] 24)) := ⟨_, rfl⟩
  rw [← hW3] at h0 h1 h2 h3 hb
  have hal : Below W3.heap.size W3 (W3.alloc (.cells #[.bool false] 4)) := below_al1 _ _
  have hok : (W3.alloc (.cells #[.bool false] 4)).heap[W3.heap.size]? = some (.cells #[.bool false] 4 (0, 0)) := heap_alloc_new W3 _
  have hs4 : (W3.alloc (.cells #[.bool false] 4)).heap.size = w.heap.size + 4 := by rw [show (W3.alloc (.cells #[.bool false] 4)).heap.size = W3.heap.size + 1 from Array.size_push _, h3]
  obtain ⟨W4, hW4⟩ : ∃ W4, W4 = W3.alloc (.cells #[.bool false] 4) := ⟨_, rfl⟩
  rw [← hW4] at hal hok hs4
  have g0 : RD W4 w.heap.size s := (hal.block w.heap.size (by omega)).trans h0
  have g1 : W4.heap[w.heap.size + 1]? = some (.cells #[.pointer (some ⟨w.heap.size, 0, none⟩)] 66 (0, 0)) := (hal.block _ (by omega)).trans h1
  have g2 : W4.heap[w.heap.size + 1 + 1]? = some (.cells #[.slice none 0 0] 24 (0, 0)) := (hal.block _ (by omega)).trans h2
  have c5 : W4.cell? ⟨w.heap.size + 1, 0, none⟩ = some (.pointer (some ⟨w.heap.size, 0, none⟩)) := by simp [World.cell?, g1]
  have c6 : W4.cell? ⟨w.heap.size + 1 + 1, 0, none⟩ = some (.slice none 0 0) := by simp [World.cell?, g2]
  have f6 : W4.frozen? ⟨w.heap.size + 1 + 1, 0, none⟩ = false := by simp [World.frozen?, g2]
  have ck : W4.cell? ⟨W3.heap.size, 0, none⟩ = some (.bool false) := by simp [World.cell?, hok]
  have fk : W4.frozen? ⟨W3.heap.size, 0, none⟩ = false := by simp [World.frozen?, hok]
  have hb4 := hb.trans (hal.mono (by omega))
  cases ho : tableP s with
  | none =>
    have hg := guard_no (cap := #[.pointer (some ⟨w.heap.size + 1, 0, none⟩), .pointer (some ⟨w.heap.size + 1 + 1, 0, none⟩)]) (w := W3) (R := fun w' => W4.grownBy w' (some w.heap.size)) hen (by
      rw [← hW4]
      refine (take1_no (a6 := ⟨w.heap.size + 1 + 1, 0, none⟩) c5 g0 hs ho).mono ?_
      rintro e w' ⟨rfl, hgr⟩
      have hbk := hgr.block W3.heap.size (by omega) (fun e => by injection e with e; omega)
      exact ⟨rfl, hgr, (World.cell?_of_block (w := W4) hbk).trans ck, (World.frozen?_of_block (w := W4) hbk).trans fk⟩)
    have HG := Lib.hid hg
    have HB4 := Lib.hid hb4
    have HS4 := Lib.hid hs4
    have HS3 := Lib.hid h3
    have HO := Lib.hid ho
    rw [hW3] at HG
    clear h0 h1 h2 h3 hb hal hok hs4 hW3 hW4 g0 g1 g2 c5 c6 f6 ck fk hb4 hg ho
    go_enter Tryd.func16, Tryd.ntmps16
    go_wp2_with fail
    refine (HG.out).mono ?_
    rintro e w' ⟨rfl, w1, hgr, hw'⟩
    have hB : Below w.heap.size w w' := by
      rw [hw']
      have b1 := below_grown HB4.out hgr (Nat.le_refl _) (by have := HS4.out; omega)
      exact below_set (b1.alloc b1.size _) (by simp; omega) 0 _
    clear hgr hw'
    go_wp2_with fail
    go_ret3
    exact take_none HO.out hB
  | some p =>
    obtain ⟨ps, r⟩ := p
    have hrs := tableP_size ho
    have hg := guard_yes (cap := #[.pointer (some ⟨w.heap.size + 1, 0, none⟩), .pointer (some ⟨w.heap.size + 1 + 1, 0, none⟩)]) (w := W3) (R := fun w' => ∃ v w1, W4.grownBy w1 (some w.heap.size) ∧ OwnP w1 W4.heap.size v ps ∧ RD w1 w.heap.size r ∧ w' = w1.setCell ⟨w.heap.size + 1 + 1, 0, none⟩ v) hen (by
      rw [← hW4]
      refine (take1_yes (a6 := ⟨w.heap.size + 1 + 1, 0, none⟩) c5 g0 hs c6 f6 (show w.heap.size + 1 + 1 ≠ w.heap.size by omega) ho).mono ?_
      rintro e w' ⟨rfl, v, w1, hgr, hv, hr, rfl⟩
      have hbk := (Below.heap_setCell w1 ⟨w.heap.size + 1 + 1, 0, none⟩ v W3.heap.size (show W3.heap.size ≠ w.heap.size + 1 + 1 by omega)).trans (hgr.block W3.heap.size (by omega) (fun e => by injection e with e; omega))
      exact ⟨rfl, ⟨v, w1, hgr, hv, hr, rfl⟩, (World.cell?_of_block (w := W4) hbk).trans ck, (World.frozen?_of_block (w := W4) hbk).trans fk⟩)
    have HG := Lib.hid hg
    have HB4 := Lib.hid hb4
    have HS4 := Lib.hid hs4
    have HS3 := Lib.hid h3
    have HO := Lib.hid ho
    have C5 := Lib.hid g1
    have C6 := Lib.hid g2
    have e1 : IntKind.i64.wrap ((s.size : Int) - (r.size : Int)) = (s.size : Int) - r.size := IntWalk.i64_in _ (by omega)
    rw [hW3] at HG
    clear h0 h1 h2 hb hal hok hW4 g0 g1 g2 c5 c6 f6 ck fk hb4 hg ho hs4 h3 hrs hW3
    go_enter Tryd.func16, Tryd.ntmps16
    go_wp2_with fail
    refine (HG.out).mono ?_
    rintro e w' ⟨rfl, w1', ⟨v, w1, hgr, hv, hr, rfl⟩, hw'⟩
    have hB : Below w.heap.size w w' := by
      rw [hw']
      have b1 := below_grown HB4.out hgr (Nat.le_refl _) (by have := HS4.out; omega)
      have h3 : w.heap.size ≤ (((w.alloc (.cells #[.string s] 68)).alloc (.cells #[.pointer (some ⟨w.heap.size, 0, none⟩)] 66)).alloc (.cells #[.slice none 0 0] 24)).heap.size := by rw [(three_blocks w _ _ _).2.2.2]; omega
      exact below_set (below_set b1 (by show w.heap.size ≤ w.heap.size + 1 + 1; omega) 0 _) h3 0 _
    have hok : (((w.alloc (.cells #[.string s] 68)).alloc (.cells #[.pointer (some ⟨w.heap.size, 0, none⟩)] 66)).alloc (.cells #[.slice none 0 0] 24)).heap.size = w.heap.size + 3 := (three_blocks w _ _ _).2.2.2
    rw [hok] at hw'
    have hgo := hgr.block
    have k5 : w1.heap[w.heap.size + 1]? = _ := (hgr.block (w.heap.size + 1) (by have := HS4.out; omega) (fun e => by injection e with e; omega)).trans C5.out
    have k6 : w1.heap[w.heap.size + 1 + 1]? = _ := (hgr.block (w.heap.size + 1 + 1) (by have := HS4.out; omega) (fun e => by injection e with e; omega)).trans C6.out
    have c5 : w'.cell? ⟨w.heap.size + 1, 0, none⟩ = some (.pointer (some ⟨w.heap.size, 0, none⟩)) := by
      rw [hw', World.cell?_setCell_other _ _ _ _ (by intro e; injection e with e; omega), World.cell?_setCell_other _ _ _ _ (by intro e; injection e with e; omega)]
      simp [World.cell?, k5]
    have c6 : w'.cell? ⟨w.heap.size + 1 + 1, 0, none⟩ = some v := by
      rw [hw', World.cell?_setCell_other _ _ _ _ (by intro e; injection e with e; omega)]
      exact World.cell?_setCell_same' _ _ _ (by simp [World.cell?, k6])
    have c0 : w'.cell? ⟨w.heap.size, 0, none⟩ = some (.string r) := by
      rw [hw', World.cell?_setCell_other _ _ _ _ (by intro e; injection e with e; omega), World.cell?_setCell_other _ _ _ _ (by intro e; injection e with e; omega)]
      exact (rd_facts hr).1
    have hV : OwnP w' w.heap.size v ps := by
      rw [hw']
      exact ownP_lower (ownP_set (ownP_set hv (by have := HS4.out; omega) 0 _) (by have := HS4.out; omega) 0 _) (by have := HS4.out; omega)
    have HB := Lib.hid hB
    have HV := Lib.hid hV
    clear hgr hv hr hw' hB hV hok hgo k5 k6
    rcases HV.out with ⟨rfl, _⟩ | ⟨g, cap, rfl, _⟩
    · go_wp2_with fail
      go_quiet (fail)
      go_wp2_with fail
      go_ret3
      exact take_some HO.out (HB.out.trans ((below_drewN _ _).mono HB.out.size)) (ownP_below HV.out (below_drewN _ _))
    · go_wp2_with fail
      go_quiet (fail)
      go_wp2_with fail
      go_ret3
      exact take_some HO.out (HB.out.trans ((below_drewN _ _).mono HB.out.size)) (ownP_below HV.out (below_drewN _ _))
end Go.Proofs.YteigbejidfkhpaaDoor

/- Layer 15: table.Decode: what a payload tells, and what the reading keeps. -/
namespace Go.Proofs.YteigbejidfkhpaaDoor
open Go Go.RowKit Go.Sort
set_option linter.unusedSimpArgs false
set_option linter.unusedVariables false

/-- What has been read, and what is left. -/
structure DSt where
  ns : List Int
  ts : List ByteArray
  ps : List Prp
  r : ByteArray
def stepD (x : UInt8) (st : DSt) : Option DSt :=
  if 0 < sizeOf' x.toNat then (numP (sizeOf' x.toNat) st.r).bind fun q => if q.1 < 9223372036854775808 then some ⟨st.ns ++ [(q.1 : Int)], st.ts, st.ps, q.2⟩ else none
  else if x = 84 then (tableP st.r).map fun q => ⟨st.ns, st.ts, q.1, q.2⟩
  else if x = 115 then (shortP st.r).map fun q => ⟨st.ns, st.ts ++ [q.1], st.ps, q.2⟩
  else (longP st.r).bind fun q => if q.1.size ≤ 1024 then some ⟨st.ns, st.ts ++ [q.1], st.ps, q.2⟩ else none
def runD : List UInt8 → DSt → Option DSt
  | [], st => some st
  | x :: f, st => (stepD x st).bind (runD f)
def decP (s : ByteArray) : Option Mth :=
  (numP 2 s).bind fun a => (numP 2 a.2).bind fun b => (formCI a.1 b.1).bind fun f => (runD f.data.toList ⟨[], [], [], b.2⟩).bind fun st => if st.r.size = 0 then some ⟨a.1, b.1, st.ns, st.ts, st.ps⟩ else none

/-- What was written: nothing that was there, but G and M. -/
structure Two (w w' : World) (G M : Nat) : Prop where
  os : w'.os = w.os
  tape : w'.tape = w.tape
  output : w'.output = w.output
  size : w.heap.size ≤ w'.heap.size
  block : ∀ k, k < w.heap.size → k ≠ G → k ≠ M → w'.heap[k]? = w.heap[k]?
theorem Two.refl (w : World) (G M : Nat) : Two w w G M := ⟨rfl, rfl, rfl, Nat.le_refl _, fun _ _ _ _ => rfl⟩
theorem Two.grown {w W W1 : World} {G M : Nat} {row : Option Nat} (h : Two w W G M) (hg : W.grownBy W1 row) (hr : ∀ k, row = some k → k < w.heap.size → k = G ∨ k = M) : Two w W1 G M :=
  ⟨hg.os.trans h.os, hg.tape.trans h.tape, hg.output.trans h.output, Nat.le_trans h.size hg.size, fun k hk h1 h2 => (hg.block k (Nat.lt_of_lt_of_le hk h.size) (fun e => by rcases hr k e.symm hk with e | e; exact h1 e; exact h2 e)).trans (h.block k hk h1 h2)⟩
theorem Two.set {w W : World} {G M : Nat} (h : Two w W G M) (j : Nat) (u : Value) : Two w (W.setCell ⟨M, j, none⟩ u) G M :=
  h.grown (grownBy_set W M j u) (fun k e _ => .inr (by injection e with e; exact e.symm))
theorem Two.below {w w' : World} {G M B : Nat} (h : Two w w' G M) (hG : B ≤ G) (hM : B ≤ M) (hB : B ≤ w.heap.size) : Below B w w' :=
  ⟨h.os, h.tape, h.output, h.size, fun k hk => h.block k (by omega) (by omega) (by omega)⟩

structure DC (w wr : World) (G M K IB : Nat) (f : ByteArray) (pos : Nat) (c i : Int) (vn vt vp : Value) (ns : List Int) (ts : List ByteArray) (ps : List Prp) : Prop where
  mb : MB wr M c i vn vt vp
  kc : wr.heap[K]? = some (.cells #[.pointer (some ⟨G, 0, none⟩)] 66 (0, 0))
  it : wr.heap[IB]? = some (.stringIter f pos)
  oi : wr.ownsRow w.heap.size 3 1 vn ns.length (ns.map (Value.int .i64))
  os : wr.ownsRow w.heap.size 9 1 vt ts.length (ts.map Value.string)
  op : OwnP wr w.heap.size vp ps
  two : Two w wr G M
  di : ∀ k, vn.ownBlock = some k → vp.ownBlock ≠ some k
  ds : ∀ k, vt.ownBlock = some k → vp.ownBlock ≠ some k
  pi : vp.ownBlock ≠ some IB

/-- Where the blocks lie. -/
structure DL (w : World) (G M K IB : Nat) : Prop where
  g : G < w.heap.size
  m : M < w.heap.size
  k : K < w.heap.size
  gm : G ≠ M
  gk : G ≠ K
  km : M ≠ K
  ib : w.heap.size ≤ IB

theorem blk_kept {w w1 : World} {row : Option Nat} {b : Nat} {o : Obj} (h : w.heap[b]? = some o) (hg : w.grownBy w1 row) (hne : row ≠ some b) : w1.heap[b]? = some o := by
  rw [hg.block b (Array.getElem?_eq_some_iff.1 h).1 (fun e => hne e.symm)]
  exact h
theorem own_low {w : World} {B e s n b : Nat} {v : Value} {xs : List Value} (h : w.ownsRow B e s v n xs) (hb : b < B) : v.ownBlock ≠ some b := fun e => by have := own_base h b e; omega
theorem own_blk {w : World} {B e s n b : Nat} {v : Value} {xs : List Value} {o : Obj} (h : w.ownsRow B e s v n xs) (hb : w.heap[b]? = some o) (ho : ∀ cs fr, o ≠ .cells cs e fr) : v.ownBlock ≠ some b := by
  intro e'
  rcases h.2 with ⟨rfl, _⟩ | ⟨g, cap, cur, rfl, _, hg, _⟩
  · cases e'
  · injection e' with e'
    have e2 : g = b := e'
    subst e2
    rw [hb] at hg
    injection hg with hg
    exact ho _ _ hg
theorem own_two {w : World} {B e s n B' e' s' n' : Nat} {v v' : Value} {xs xs' : List Value} (h : w.ownsRow B e s v n xs) (h' : w.ownsRow B' e' s' v' n' xs') (ht : e ≠ e') (k : Nat) (hk : v.ownBlock = some k) : v'.ownBlock ≠ some k := by
  rcases h.2 with ⟨rfl, _⟩ | ⟨g, cap, cur, rfl, _, hg, _⟩
  · cases hk
  · injection hk with hk
    have e2 : g = k := hk
    subst e2
    exact own_blk h' hg (fun cs fr e => by injection e with _ e _; exact ht e)
theorem ownP_low {w : World} {B b : Nat} {v : Value} {ps : List Prp} (h : OwnP w B v ps) (hb : b < B) : v.ownBlock ≠ some b := by
  rcases h with ⟨rfl, _⟩ | ⟨g, cap, rfl, h0, _⟩
  · intro e; cases e
  · intro e; injection e with e; have e2 : g = b := e; omega
theorem ownP_lt {w : World} {B : Nat} {v : Value} {ps : List Prp} (h : OwnP w B v ps) (k : Nat) (hk : v.ownBlock = some k) : B ≤ k ∧ k < w.heap.size := by
  rcases h with ⟨rfl, _⟩ | ⟨g, cap, rfl, h0, h1, _⟩
  · cases hk
  · injection hk with e; have e2 : g = k := e; omega
theorem ownP_kept {w w1 : World} {B : Nat} {v : Value} {ps : List Prp} {row : Option Nat} (h : OwnP w B v ps) (hg : w.grownBy w1 row) (hne : ∀ k, row = some k → v.ownBlock ≠ some k) : OwnP w1 B v ps := by
  rcases h with h | ⟨g, cap, rfl, h0, h4, h1, h2, h3⟩
  · exact .inl h
  · have hb := hg.block g h4 (fun e => hne g e.symm rfl)
    refine .inr ⟨g, cap, rfl, h0, Nat.lt_of_lt_of_le h4 hg.size, h1, h2, fun j hj => ?_⟩
    obtain ⟨a, c⟩ := h3 j hj
    exact ⟨(World.cell?_of_block (w := w) hb).trans a, (World.frozen?_of_block (w := w) hb).trans c⟩
theorem own_kept {w w1 : World} {B e s n : Nat} {v : Value} {xs : List Value} {row : Option Nat} (h : w.ownsRow B e s v n xs) (hg : w.grownBy w1 row) (hne : ∀ k, row = some k → v.ownBlock ≠ some k) : w1.ownsRow B e s v n xs :=
  own_other h hg (fun k hk e => hne k e hk)

section
variable {w W W1 : World} {G M K IB : Nat} {f : ByteArray} {pos : Nat} {c i : Int} {vn vt vp : Value} {ns : List Int} {ts : List ByteArray} {ps : List Prp}
/-- A step that writes another block. -/
theorem DC.step (h : DC w W G M K IB f pos c i vn vt vp ns ts ps) (L : DL w G M K IB) {row : Option Nat} (hg : W.grownBy W1 row) (hr : row = none ∨ row = some G) : DC w W1 G M K IB f pos c i vn vt vp ns ts ps := by
  have hG : ∀ k, row = some k → k = G := fun k e => by rcases hr with e2 | e2 <;> rw [e2] at e <;> cases e; rfl
  have hib : IB ≠ G := by have := L.g; have := L.ib; omega
  exact ⟨blk_kept h.mb hg (fun e => L.gm (hG _ e).symm), blk_kept h.kc hg (fun e => L.gk (hG _ e).symm), blk_kept h.it hg (fun e => hib (hG _ e)),
    own_kept h.oi hg (fun k e => by rw [hG k e]; exact own_low h.oi L.g), own_kept h.os hg (fun k e => by rw [hG k e]; exact own_low h.os L.g), ownP_kept h.op hg (fun k e => by rw [hG k e]; exact ownP_low h.op L.g),
    h.two.grown hg (fun k e _ => .inl (hG k e)), h.di, h.ds, h.pi⟩
theorem DC.below (h : DC w W G M K IB f pos c i vn vt vp ns ts ps) (L : DL w G M K IB) (hb : Below W.heap.size W W1) : DC w W1 G M K IB f pos c i vn vt vp ns ts ps := h.step L (grownBy_below hb none) (.inl rfl)
theorem DC.iter (h : DC w W G M K IB f pos c i vn vt vp ns ts ps) (L : DL w G M K IB) (p' : Nat) : DC w (W.iterAt IB f p') G M K IB f p' c i vn vt vp ns ts ps := by
  have hg : W.grownBy (W.iterAt IB f p') (some IB) := ⟨rfl, rfl, rfl, by rw [Lib.iterAt_size]; exact Nat.le_refl _, fun k _ hk => Lib.iterAt_other _ _ _ _ _ (fun e => hk (by rw [e]))⟩
  have l1 := L.ib
  have l2 := L.m
  have l3 := L.k
  refine ⟨blk_kept h.mb hg (fun e => by injection e with e; omega), blk_kept h.kc hg (fun e => by injection e with e; omega), Lib.iterAt_heap _ _ _ _ _ h.it, own_iterAt h.oi h.it _, own_iterAt h.os h.it _, ownP_kept h.op hg (fun k e => by injection e with e; rw [← e]; exact h.pi), ?_, h.di, h.ds, h.pi⟩
  exact h.two.grown hg (fun k e hk => by injection e with e; omega)
theorem mb_set2 {w : World} {b : Nat} (h : MB w b c i vn vt vp) (u : Value) : MB (w.setCell ⟨b, 2, none⟩ u) b c i u vt vp := by
  unfold MB at h ⊢
  simp [World.setCell, Array.getElem?_modify, h]
theorem mb_set3 {w : World} {b : Nat} (h : MB w b c i vn vt vp) (u : Value) : MB (w.setCell ⟨b, 3, none⟩ u) b c i vn u vp := by
  unfold MB at h ⊢
  simp [World.setCell, Array.getElem?_modify, h]
theorem mb_set4 {w : World} {b : Nat} (h : MB w b c i vn vt vp) (u : Value) : MB (w.setCell ⟨b, 4, none⟩ u) b c i vn vt u := by
  unfold MB at h ⊢
  simp [World.setCell, Array.getElem?_modify, h]
theorem mb_set0 {w : World} {b : Nat} (h : MB w b c i vn vt vp) (u : Int) : MB (w.setCell ⟨b, 0, none⟩ (.int .i64 u)) b u i vn vt vp := by
  unfold MB at h ⊢
  simp [World.setCell, Array.getElem?_modify, h]
theorem mb_set1 {w : World} {b : Nat} (h : MB w b c i vn vt vp) (u : Int) : MB (w.setCell ⟨b, 1, none⟩ (.int .i64 u)) b c u vn vt vp := by
  unfold MB at h ⊢
  simp [World.setCell, Array.getElem?_modify, h]
theorem mb_frozen {w : World} {b : Nat} (h : MB w b c i vn vt vp) (j : Nat) : w.frozen? ⟨b, j, none⟩ = false := by simp [World.frozen?, show w.heap[b]? = _ from h]
/-- The block M is written. -/
theorem set_m (W : World) (j : Nat) (u : Value) : W.grownBy (W.setCell ⟨M, j, none⟩ u) (some M) := grownBy_set W M j u
theorem DC.set2 (h : DC w W G M K IB f pos c i vn vt vp ns ts ps) (L : DL w G M K IB) {v1 : Value} {ns1 : List Int} (hg : W.grownBy W1 vn.ownBlock) (ho : W1.ownsRow w.heap.size 3 1 v1 ns1.length (ns1.map (Value.int .i64))) (hv : v1.ownBlock = vn.ownBlock ∨ v1.ownBlock = some W.heap.size) :
    DC w (W1.setCell ⟨M, 2, none⟩ v1) G M K IB f pos c i v1 vt vp ns1 ts ps := by
  have l1 := L.ib
  have l2 := L.m
  have l3 := L.k
  have gm := set_m (M := M) W1 2 v1
  have nm : ∀ k, (some M : Option Nat) = some k → k = M := fun k e => by injection e with e; exact e.symm
  have o1 := own_kept h.os hg (fun k e => own_two h.oi h.os (by decide) k e)
  have p1 := ownP_kept h.op hg (fun k e => h.di k e)
  refine ⟨mb_set2 (blk_kept h.mb hg (own_low h.oi L.m)) v1, blk_kept (blk_kept h.kc hg (own_low h.oi L.k)) gm (fun e => L.km (nm _ e).symm), blk_kept (blk_kept h.it hg (own_blk h.oi h.it (fun _ _ e => by cases e))) gm (fun e => by have := nm _ e; omega),
    own_kept ho gm (fun k e => by rw [nm k e]; exact own_low ho L.m), own_kept o1 gm (fun k e => by rw [nm k e]; exact own_low o1 L.m), ownP_kept p1 gm (fun k e => by rw [nm k e]; exact ownP_low p1 L.m),
    (h.two.grown hg (fun k e hk => absurd e (own_low h.oi hk))).set 2 v1, fun k hk => ?_, h.ds, h.pi⟩
  rcases hv with e | e
  · exact h.di k (e ▸ hk)
  · intro hp
    have := (ownP_lt h.op k hp).2
    rw [e] at hk
    injection hk with hk
    omega
theorem DC.set3 (h : DC w W G M K IB f pos c i vn vt vp ns ts ps) (L : DL w G M K IB) {v1 : Value} {ts1 : List ByteArray} (hg : W.grownBy W1 vt.ownBlock) (ho : W1.ownsRow w.heap.size 9 1 v1 ts1.length (ts1.map Value.string)) (hv : v1.ownBlock = vt.ownBlock ∨ v1.ownBlock = some W.heap.size) :
    DC w (W1.setCell ⟨M, 3, none⟩ v1) G M K IB f pos c i vn v1 vp ns ts1 ps := by
  have l1 := L.ib
  have l2 := L.m
  have l3 := L.k
  have gm := set_m (M := M) W1 3 v1
  have nm : ∀ k, (some M : Option Nat) = some k → k = M := fun k e => by injection e with e; exact e.symm
  have o1 := own_kept h.oi hg (fun k e => own_two h.os h.oi (by decide) k e)
  have p1 := ownP_kept h.op hg (fun k e => h.ds k e)
  refine ⟨mb_set3 (blk_kept h.mb hg (own_low h.os L.m)) v1, blk_kept (blk_kept h.kc hg (own_low h.os L.k)) gm (fun e => L.km (nm _ e).symm), blk_kept (blk_kept h.it hg (own_blk h.os h.it (fun _ _ e => by cases e))) gm (fun e => by have := nm _ e; omega),
    own_kept o1 gm (fun k e => by rw [nm k e]; exact own_low o1 L.m), own_kept ho gm (fun k e => by rw [nm k e]; exact own_low ho L.m), ownP_kept p1 gm (fun k e => by rw [nm k e]; exact ownP_low p1 L.m),
    (h.two.grown hg (fun k e hk => absurd e (own_low h.os hk))).set 3 v1, h.di, fun k hk => ?_, h.pi⟩
  rcases hv with e | e
  · exact h.ds k (e ▸ hk)
  · intro hp
    have := (ownP_lt h.op k hp).2
    rw [e] at hk
    injection hk with hk
    omega
theorem DC.set4 (h : DC w W G M K IB f pos c i vn vt vp ns ts ps) (L : DL w G M K IB) {v1 : Value} {ps1 : List Prp} (hg : W.grownBy W1 (some G)) (ho : OwnP W1 W.heap.size v1 ps1) :
    DC w (W1.setCell ⟨M, 4, none⟩ v1) G M K IB f pos c i vn vt v1 ns ts ps1 := by
  have l1 := L.ib
  have l2 := L.m
  have l3 := L.k
  have h1 := h.step L hg (.inr rfl)
  have gm := set_m (M := M) W1 4 v1
  have nm : ∀ k, (some M : Option Nat) = some k → k = M := fun k e => by injection e with e; exact e.symm
  have hs := h.two.size
  have hi : IB < W.heap.size := (Array.getElem?_eq_some_iff.1 h.it).1
  refine ⟨mb_set4 h1.mb v1, blk_kept h1.kc gm (fun e => L.km (nm _ e).symm), blk_kept h1.it gm (fun e => by have := nm _ e; omega),
    own_kept h1.oi gm (fun k e => by rw [nm k e]; exact own_low h1.oi L.m), own_kept h1.os gm (fun k e => by rw [nm k e]; exact own_low h1.os L.m), ownP_kept (ownP_lower ho hs) gm (fun k e => by rw [nm k e]; exact ownP_low (ownP_lower ho hs) L.m),
    h1.two.set 4 v1, fun k hk hp => ?_, fun k hk hp => ?_, fun hp => ?_⟩
  · have := (ownP_lt ho k hp).1
    have := own_lt h.oi hk
    omega
  · have := (ownP_lt ho k hp).1
    have := own_lt h.os hk
    omega
  · have := (ownP_lt ho _ hp).1
    omega
end

section
variable {x : UInt8} {l : List UInt8} {st st' : DSt} {z n : Nat} {r y : ByteArray} {qs : List Prp} {total : Option DSt}
theorem sd_num_none (hZ : z = sizeOf' x.toNat) (hz : 0 < z) (h : numP z st.r = none) : stepD x st = none := by
  unfold stepD
  rw [← hZ, if_pos hz, h]
  rfl
theorem sd_num_neg (hZ : z = sizeOf' x.toNat) (hz : 0 < z) (h : numP z st.r = some (n, r)) (hn : ¬ n < 9223372036854775808) : stepD x st = none := by
  unfold stepD
  rw [← hZ, if_pos hz, h, Option.bind_some]
  exact if_neg hn
theorem sd_num_ok (hZ : z = sizeOf' x.toNat) (hz : 0 < z) (h : numP z st.r = some (n, r)) (hn : n < 9223372036854775808) : stepD x st = some ⟨st.ns ++ [(n : Int)], st.ts, st.ps, r⟩ := by
  unfold stepD
  rw [← hZ, if_pos hz, h, Option.bind_some]
  exact if_pos hn
theorem sd_tab (hZ : 0 = sizeOf' x.toNat) (hx : x = 84) : stepD x st = (tableP st.r).map fun q => ⟨st.ns, st.ts, q.1, q.2⟩ := by
  unfold stepD
  rw [← hZ, if_neg (Nat.lt_irrefl 0), if_pos hx]
theorem sd_short (hZ : 0 = sizeOf' x.toNat) (hx : x ≠ 84) (hs : x = 115) : stepD x st = (shortP st.r).map fun q => ⟨st.ns, st.ts ++ [q.1], st.ps, q.2⟩ := by
  unfold stepD
  rw [← hZ, if_neg (Nat.lt_irrefl 0), if_neg hx, if_pos hs]
theorem sd_long (hZ : 0 = sizeOf' x.toNat) (hx : x ≠ 84) (hs : x ≠ 115) : stepD x st = (longP st.r).bind fun q => if q.1.size ≤ 1024 then some ⟨st.ns, st.ts ++ [q.1], st.ps, q.2⟩ else none := by
  unfold stepD
  rw [← hZ, if_neg (Nat.lt_irrefl 0), if_neg hx, if_neg hs]
theorem run_stop (ht : total = runD l st) (hl : l = x :: l.tail) (h : stepD x st = none) : total = none := by
  rw [hl] at ht
  rw [ht]
  show (stepD x st).bind _ = none
  rw [h]
  rfl
theorem run_next {l' : List UInt8} (ht : total = runD l st) (hl : l = x :: l') (h : stepD x st = some st') : total = runD l' st' := by
  subst hl
  rw [ht]
  show (stepD x st).bind _ = _
  rw [h]
  rfl
end

theorem step_app_own {ops : Array Oper} {o : Oper} {a : Act} {K : Act → World → Prop} {Q : Exit → Act → World → Prop} {E : Prop} {W : World} (base t e : Nat) (size bytes : Nat) (z : Value) (ht : Tryd.prog.underlying t = some (.slice e))
    (hinfo : (Tryd.prog.info? e).map (fun i => (i.zero, i.size, i.bytes)) = some (some z, size, bytes)) (hz : z.cells.size = size) (hs0 : 0 < size)
    (hgd : o.guard = none) (s x : Operand) (ho : o.op = .call { callee := .builtin .append, args := #[s, x], argTypes := #[t, t] })
    (v u : Value) (n m : Nat) (xs news : List Value) (hs : a.eval s = v) (hx : a.eval x = u) (hown : W.ownsRow base e size v n xs) (hr : RC W u m size news) (h1 : ∀ y ∈ news, y.oneCell' = true)
    (hb : (n + m) * bytes ≤ 140737488355328) (h63 : n + m ≤ 9223372036854775807) (hbase : base ≤ W.heap.size)
    (h : ∀ v1 w1, w1.ownsRow base e size v1 (n + m) (xs ++ news) → W.grownBy w1 v.ownBlock → (v1.ownBlock = v.ownBlock ∨ v1.ownBlock = some W.heap.size) → K (a.put o.dst v1) w1) :
    if Region.wanted o (yielded ops a.tmps) = true then Oper.wp Tryd.prog o a W K Q else E := by
  have hw : Region.wanted o (yielded ops a.tmps) = true := by simp [Region.wanted, hgd]
  rw [if_pos hw]
  obtain ⟨v1, w1, hrun, h2, h3, h5⟩ := run_app (P := Tryd.prog) base t o.type e size bytes z ht hinfo hz hs0 v u n m xs news hown hr h1 hb h63 hbase
  unfold Oper.wp execOp
  simp only [ho, resolve, invoke, builtin, Sem.run_bind, Sem.run_pure, Result.andThen_ok, List.map_toArray, List.map_cons, List.map_nil, hs, hx, hrun]
  exact h _ _ h2 h3 h5
theorem rc_any {w : World} {v : Value} {n s : Nat} {cs : List Value} (h : RC w v n s cs) : ∃ A c, v = .slice A n c := by
  obtain ⟨A, c, e, _⟩ := h
  exact ⟨A, c, e⟩
theorem int_new (w : World) (n : Int) : RC (w.alloc (.cells #[.int .i64 n] 3)) (.slice (some ⟨w.heap.size, 0, none⟩) 1 1) 1 1 [.int .i64 n] := rc_new w 3 1 1 [.int .i64 n] rfl (by omega)
theorem str_new (w : World) (s : ByteArray) : RC (w.alloc (.cells #[.string s] 9)) (.slice (some ⟨w.heap.size, 0, none⟩) 1 1) 1 1 [.string s] := rc_new w 9 1 1 [.string s] rfl (by omega)
theorem rd_kept {w w1 : World} {g : Nat} {s : ByteArray} {row : Option Nat} (h : RD w g s) (hg : w.grownBy w1 row) (hne : row ≠ some g) : RD w1 g s := blk_kept h hg hne

section
variable {ops : Array Oper} {rest : List Oper} {o : Oper} {a : Act} {Q : Exit → Act → World → Prop} {w W : World} {G M K IB : Nat} {f : ByteArray} {pos : Nat} {c i : Int} {vn vt vp : Value} {ns : List Int} {ts : List ByteArray} {ps : List Prp} {r : ByteArray}
/-- A number put behind the others, the append. -/
theorem app_num (D : DC w W G M K IB f pos c i vn vt vp ns ts ps) (L : DL w G M K IB) (R : RD W G r) (N : Int) (hl : ns.length ≤ 6)
    (hgd : o.guard = none) (s x : Operand) (ho : o.op = .call { callee := .builtin .append, args := #[s, x], argTypes := #[22, 22] }) (hs : a.eval s = vn) (hx : a.eval x = .slice (some ⟨W.heap.size, 0, none⟩) 1 1)
    (h : ∀ (A8 : Option Addr) (c8 : Nat) (w8 : World), MB w8 M c i vn vt vp → DC w (w8.setCell ⟨M, 2, none⟩ (.slice A8 (ns.length + 1) c8)) G M K IB f pos c i (.slice A8 (ns.length + 1) c8) vt vp (ns ++ [N]) ts ps → RD (w8.setCell ⟨M, 2, none⟩ (.slice A8 (ns.length + 1) c8)) G r → wpList Tryd.prog ops Q rest (a.put o.dst (.slice A8 (ns.length + 1) c8)) w8) :
    wpList Tryd.prog ops Q (o :: rest) a (W.alloc (.cells #[.int .i64 N] 3)) := by
  have DA := D.below L (below_al1 W (.cells #[.int .i64 N] 3))
  have hs0 := D.two.size
  refine app_own (w0 := W.alloc (.cells #[.int .i64 N] 3)) w.heap.size 22 3 1 8 _ Tryd.underlying22 info_i64 rfl (by decide) hgd s x ho vn _ ns.length 1 (ns.map (Value.int .i64)) [.int .i64 N] hs hx DA.oi (int_new W N) (fun y hy => by rw [List.mem_singleton.1 hy]; rfl) (Below.refl _ _) (by omega) (by omega) (Nat.le_trans hs0 (below_al1 W _).size) ?_
  intro v8 w8 o8 _ g8 e8
  obtain ⟨A8, c8, rfl⟩ := rc_any (own_rc o8)
  refine h A8 c8 w8 (blk_kept DA.mb g8 (own_low DA.oi L.m)) (DA.set2 L g8 (by rw [List.length_append, List.map_append]; exact o8) e8) ?_
  exact rd_kept (rd_kept (rd_below R (below_al1 W _)) g8 (own_low DA.oi L.g)) (grownBy_set w8 M 2 _) (fun e => L.gm (by injection e with e; exact e.symm))
theorem app_txt (D : DC w W G M K IB f pos c i vn vt vp ns ts ps) (L : DL w G M K IB) (R : RD W G r) (y : ByteArray) (hl : ts.length ≤ 6)
    (hgd : o.guard = none) (s x : Operand) (ho : o.op = .call { callee := .builtin .append, args := #[s, x], argTypes := #[23, 23] }) (hs : a.eval s = vt) (hx : a.eval x = .slice (some ⟨W.heap.size, 0, none⟩) 1 1)
    (h : ∀ (A8 : Option Addr) (c8 : Nat) (w8 : World), MB w8 M c i vn vt vp → DC w (w8.setCell ⟨M, 3, none⟩ (.slice A8 (ts.length + 1) c8)) G M K IB f pos c i vn (.slice A8 (ts.length + 1) c8) vp ns (ts ++ [y]) ps → RD (w8.setCell ⟨M, 3, none⟩ (.slice A8 (ts.length + 1) c8)) G r → wpList Tryd.prog ops Q rest (a.put o.dst (.slice A8 (ts.length + 1) c8)) w8) :
    wpList Tryd.prog ops Q (o :: rest) a (W.alloc (.cells #[.string y] 9)) := by
  have DA := D.below L (below_al1 W (.cells #[.string y] 9))
  have hs0 := D.two.size
  refine app_own (w0 := W.alloc (.cells #[.string y] 9)) w.heap.size 23 9 1 16 _ Tryd.underlying23 info_str rfl (by decide) hgd s x ho vt _ ts.length 1 (ts.map Value.string) [.string y] hs hx DA.os (str_new W y) (fun z hy => by rw [List.mem_singleton.1 hy]; rfl) (Below.refl _ _) (by omega) (by omega) (Nat.le_trans hs0 (below_al1 W _).size) ?_
  intro v8 w8 o8 _ g8 e8
  obtain ⟨A8, c8, rfl⟩ := rc_any (own_rc o8)
  refine h A8 c8 w8 (blk_kept DA.mb g8 (own_low DA.os L.m)) (DA.set3 L g8 (by rw [List.length_append, List.map_append]; exact o8) e8) ?_
  exact rd_kept (rd_kept (rd_below R (below_al1 W _)) g8 (own_low DA.os L.g)) (grownBy_set w8 M 3 _) (fun e => L.gm (by injection e with e; exact e.symm))
theorem step_txt {KK : Act → World → Prop} {E : Prop} (D : DC w W G M K IB f pos c i vn vt vp ns ts ps) (L : DL w G M K IB) (R : RD W G r) (y : ByteArray) (hl : ts.length ≤ 6)
    (hgd : o.guard = none) (s x : Operand) (ho : o.op = .call { callee := .builtin .append, args := #[s, x], argTypes := #[23, 23] }) (hs : a.eval s = vt) (hx : a.eval x = .slice (some ⟨W.heap.size, 0, none⟩) 1 1)
    (h : ∀ (A8 : Option Addr) (c8 : Nat) (w8 : World), MB w8 M c i vn vt vp → DC w (w8.setCell ⟨M, 3, none⟩ (.slice A8 (ts.length + 1) c8)) G M K IB f pos c i vn (.slice A8 (ts.length + 1) c8) vp ns (ts ++ [y]) ps → RD (w8.setCell ⟨M, 3, none⟩ (.slice A8 (ts.length + 1) c8)) G r → KK (a.put o.dst (.slice A8 (ts.length + 1) c8)) w8) :
    if Region.wanted o (yielded ops a.tmps) = true then Oper.wp Tryd.prog o a (W.alloc (.cells #[.string y] 9)) KK Q else E := by
  have DA := D.below L (below_al1 W (.cells #[.string y] 9))
  have hs0 := D.two.size
  refine step_app_own w.heap.size 23 9 1 16 _ Tryd.underlying23 info_str rfl (by decide) hgd s x ho vt _ ts.length 1 (ts.map Value.string) [.string y] hs hx DA.os (str_new W y) (fun z hy => by rw [List.mem_singleton.1 hy]; rfl) (by omega) (by omega) (Nat.le_trans hs0 (below_al1 W _).size) ?_
  intro v8 w8 o8 g8 e8
  obtain ⟨A8, c8, rfl⟩ := rc_any (own_rc o8)
  refine h A8 c8 w8 (blk_kept DA.mb g8 (own_low DA.os L.m)) (DA.set3 L g8 (by rw [List.length_append, List.map_append]; exact o8) e8) ?_
  exact rd_kept (rd_kept (rd_below R (below_al1 W _)) g8 (own_low DA.os L.g)) (grownBy_set w8 M 3 _) (fun e => L.gm (by injection e with e; exact e.symm))
end
end Go.Proofs.YteigbejidfkhpaaDoor

/- Layer 15, plain law: a method's payload is read as the method, and as nothing else with a byte behind. -/
namespace Go.Proofs.YteigbejidfkhpaaDoor
open Go Go.RowKit
set_option linter.unusedSimpArgs false
set_option linter.unusedVariables false

theorem beB_one (n : Nat) : beB n 1 = [UInt8.ofNat n] := by simp [beB, dig]
theorem run_enc : ∀ (f : List UInt8) (ns : List Int) (ts : List ByteArray) (tb : Nat) (ps : List Prp) (l r : List UInt8) (ns0 : List Int) (ts0 : List ByteArray) (ps0 : List Prp),
    (∀ n ∈ ns, n ≤ 9223372036854775807) → (∀ p ∈ ps, p.r < 2 ^ 64 ∧ -9223372036854775808 ≤ p.n ∧ p.n ≤ 9223372036854775807) → (tb = 0 → ps0 = []) → (0 < tb → ps0 = ps) →
    encB f ns ts tb ps = some l → runD f ⟨ns0, ts0, ps0, bs (l ++ r)⟩ = some ⟨ns0 ++ ns, ts0 ++ ts, ps, bs r⟩
  | [], ns, ts, tb, ps, l, r, ns0, ts0, ps0, hn, hp, h0, h1, h => by
    unfold encB at h
    split at h
    · rename_i g
      injection h with h
      obtain ⟨rfl, rfl, g3⟩ := g
      subst h
      have e : ps0 = ps := by
        by_cases hz : tb = 0
        · rw [h0 hz, List.eq_nil_of_length_eq_zero (g3 hz)]
        · exact h1 (by omega)
      rw [e]
      simp [runD]
    · cases h
  | c :: f, ns, ts, tb, ps, l, r, ns0, ts0, ps0, hn, hp, h0, h1, h => by
    unfold encB at h
    show (stepD c _).bind (runD f) = _
    by_cases hz : 0 < sizeOf' c.toNat
    · rw [if_pos hz] at h
      cases ns with
      | nil => cases h
      | cons n ns =>
        dsimp only at h
        by_cases hf : fitsB n (sizeOf' c.toNat) = true
        · rw [if_pos hf] at h
          obtain ⟨l', hl, rfl⟩ := Option.map_eq_some_iff.1 h
          have hzc : sizeOf' c.toNat = 1 ∨ sizeOf' c.toNat = 2 ∨ sizeOf' c.toNat = 4 ∨ sizeOf' c.toNat = 8 := by
            rcases size_cases (c.toNat : Int) with e | e | e | e | e <;> omega
          obtain ⟨n0, n1⟩ := fits_lt hf (hn n (List.mem_cons_self ..)) hzc
          have hnum := numP_app (sizeOf' c.toNat) n.toNat n1 (l' ++ r)
          rw [sd_num_ok (st := ⟨ns0, ts0, ps0, bs (beB n.toNat (sizeOf' c.toNat) ++ l' ++ r)⟩) rfl hz (by rw [List.append_assoc]; exact hnum) (by have := hn n (List.mem_cons_self ..); omega), Option.bind_some]
          rw [run_enc f ns ts tb ps l' r (ns0 ++ [((n.toNat : Nat) : Int)]) ts0 ps0 (fun m hm => hn m (List.mem_cons_of_mem _ hm)) hp h0 h1 hl]
          rw [show ((n.toNat : Nat) : Int) = n by omega]
          simp
        · rw [if_neg hf] at h
          cases h
    · rw [if_neg hz] at h
      have hz0 : 0 = sizeOf' c.toNat := by omega
      by_cases hx : c = 84
      · rw [if_pos hx] at h
        by_cases hv : validB ps = true
        · rw [if_pos hv] at h
          obtain ⟨l', hl, rfl⟩ := Option.map_eq_some_iff.1 h
          have ht := tableP_put hv hp (l' ++ r)
          unfold putB at ht
          rw [sd_tab hz0 hx]
          dsimp only
          rw [show beB (propsB ps).length 4 ++ propsB ps ++ l' ++ r = beB (propsB ps).length 4 ++ propsB ps ++ (l' ++ r) by simp, ht, Option.map_some, Option.bind_some]
          exact run_enc f ns ts (tb + 1) ps l' r ns0 ts0 ps hn hp (fun e => by omega) (fun _ => rfl) hl
        · rw [if_neg hv] at h
          cases h
      · rw [if_neg hx] at h
        cases ts with
        | nil => cases h
        | cons t ts =>
          dsimp only at h
          by_cases ht : t.size ≤ 1024 ∧ (c = 115 → t.size ≤ 255)
          · rw [if_pos ht] at h
            obtain ⟨l', hl, rfl⟩ := Option.map_eq_some_iff.1 h
            by_cases hs : c = 115
            · rw [sd_short hz0 hx hs, if_pos hs]
              dsimp only
              have hsh := shortP_app t.data.toList (l' ++ r) (by rw [ba_size]; have := ht.2 hs; omega)
              rw [ba_size, bs_of] at hsh
              rw [beB_one, show [UInt8.ofNat t.size] ++ t.data.toList ++ l' ++ r = UInt8.ofNat t.size :: (t.data.toList ++ (l' ++ r)) by simp, hsh, Option.map_some, Option.bind_some]
              rw [run_enc f ns ts tb ps l' r ns0 (ts0 ++ [t]) ps0 hn hp h0 h1 hl]
              simp
            · rw [sd_long hz0 hx hs, if_neg hs]
              dsimp only
              have hsh := longP_app t.data.toList (l' ++ r) (by rw [ba_size]; omega)
              rw [ba_size, bs_of] at hsh
              rw [show beB t.size 4 ++ t.data.toList ++ l' ++ r = beB t.size 4 ++ (t.data.toList ++ (l' ++ r)) by simp, hsh, Option.bind_some, if_pos ht.1, Option.bind_some]
              rw [run_enc f ns ts tb ps l' r ns0 (ts0 ++ [t]) ps0 hn hp h0 h1 hl]
              simp
          · rw [if_neg ht] at h
            cases h
theorem dec_enc {m : Mth} {l : List UInt8} (hf : m.fit) (h : m.bytes = some l) (r : List UInt8) : decP (bs (l ++ r)) = if r = [] then some m else none := by
  unfold Mth.bytes at h
  obtain ⟨f, h1, h2⟩ := Option.bind_eq_some_iff.1 h
  obtain ⟨l', h3, rfl⟩ := Option.map_eq_some_iff.1 h2
  obtain ⟨c0, c1, i0, i1⟩ := form_range h1
  have hc : ((m.c.toNat : Nat) : Int) = m.c := by omega
  have hi : ((m.i.toNat : Nat) : Int) = m.i := by omega
  have e1 := numP_app 2 m.c.toNat (by show _ < 65536; omega) (beB m.i.toNat 2 ++ (l' ++ r))
  have e2 := numP_app 2 m.i.toNat (by show _ < 65536; omega) (l' ++ r)
  unfold decP
  rw [show beB m.c.toNat 2 ++ beB m.i.toNat 2 ++ l' ++ r = beB m.c.toNat 2 ++ (beB m.i.toNat 2 ++ (l' ++ r)) by simp, e1, Option.bind_some]
  dsimp only
  rw [e2, Option.bind_some]
  dsimp only
  rw [hc, hi, h1, Option.bind_some, run_enc f.data.toList m.ns m.ts 0 m.ps l' r [] [] [] hf.1 hf.2 (fun _ => rfl) (fun e => by omega) h3, Option.bind_some]
  dsimp only
  rw [bs_size]
  cases r with
  | nil => rfl
  | cons x r => rfl
theorem encB_small : ∀ (f : List UInt8) (ns : List Int) (ts : List ByteArray) (tb : Nat) (ps : List Prp) (l : List UInt8), encB f ns ts tb ps = some l → l.length ≤ f.length * 5000
  | [], ns, ts, tb, ps, l, h => by
    unfold encB at h
    split at h
    · injection h with h
      subst h
      exact Nat.zero_le _
    · cases h
  | c :: f, ns, ts, tb, ps, l, h => by
    unfold encB at h
    rw [List.length_cons, Nat.add_mul]
    by_cases hz : 0 < sizeOf' c.toNat
    · rw [if_pos hz] at h
      cases ns with
      | nil => cases h
      | cons n ns =>
        dsimp only at h
        split at h
        · obtain ⟨l', hl, rfl⟩ := Option.map_eq_some_iff.1 h
          have := encB_small f _ _ _ _ _ hl
          have : sizeOf' c.toNat ≤ 8 := by rcases size_cases (c.toNat : Int) with e | e | e | e | e <;> omega
          rw [List.length_append, beB_len]
          omega
        · cases h
    · rw [if_neg hz] at h
      by_cases hx : c = 84
      · rw [if_pos hx] at h
        split at h
        · rename_i hv
          obtain ⟨l', hl, rfl⟩ := Option.map_eq_some_iff.1 h
          have := encB_small f _ _ _ _ _ hl
          have := props_small hv
          rw [List.length_append, List.length_append, beB_len]
          omega
        · cases h
      · rw [if_neg hx] at h
        cases ts with
        | nil => cases h
        | cons t ts =>
          dsimp only at h
          split at h
          · rename_i ht
            obtain ⟨l', hl, rfl⟩ := Option.map_eq_some_iff.1 h
            have := encB_small f _ _ _ _ _ hl
            rw [List.length_append, List.length_append, beB_len, ba_size]
            split <;> omega
          · cases h
theorem bytes_small {m : Mth} {l : List UInt8} (h : m.bytes = some l) : l.length ≤ 40000 := by
  unfold Mth.bytes at h
  obtain ⟨f, h1, h2⟩ := Option.bind_eq_some_iff.1 h
  obtain ⟨l', h3, rfl⟩ := Option.map_eq_some_iff.1 h2
  have := encB_small _ _ _ _ _ _ h3
  have hf := (form_small h1).1
  rw [ba_size] at this
  rw [List.length_append, List.length_append, beB_len, beB_len]
  omega
theorem rb_mid (A : Option Addr) (c : Nat) (l : List UInt8) (hnc : l.length ≤ c) (j : Nat) (h1 : 1 ≤ j) (hj : j ≤ l.length) :
    ∃ v' : Value, (∀ W : World, (Instr.slice 29 (.slice A l.length c) (some (.int .i64 1)) (some (.int .i64 j)) none).run Tryd.prog W = .ok v' W) ∧ ∀ w : World, RB w (.slice A l.length c) l → RB w v' ((l.take j).drop 1) := by
  have hlt : (l.take j).length = j := by rw [List.length_take]; omega
  obtain ⟨A', hrun, hrb, _⟩ := rb_drop A c (l.take j) (by omega) 1 (by omega) (by omega)
  have hel : Tryd.prog.elem 29 = 5 := by simp [Program.elem, Tryd.underlying29]
  have hu : Tryd.prog.underlying 29 = some (.slice (Tryd.prog.elem 29)) := by rw [hel]; exact Tryd.underlying29
  refine ⟨_, fun W => ?_, fun w h => hrb w (by rw [hlt]; exact rb_take h rfl j hj)⟩
  have h2 := hrun W
  rw [hlt] at h2
  rw [run_slice_l W _ _ _ _ hu .i64 1 (by omega) (by omega)] at h2
  rw [run_slice_lh W _ _ _ _ hu .i64 .i64 1 j (by omega) (by omega) (by omega), hlt]
  exact h2
end Go.Proofs.YteigbejidfkhpaaDoor

/- The reference's Encode. -/
namespace Go.Proofs.YteigbejidfkhpaaDoor
open Go Go.RowKit Go.Sort
set_option linter.unusedSimpArgs false
set_option linter.unusedVariables false

theorem mb_keepsT {w w1 : World} {b : Nat} {c i : Int} {vn vt vp : Value} (h : MB w b c i vn vt vp) (k : KeepsT w w1) : MB w1 b c i vn vt vp := k b _ _ _ (by decide) h
theorem ri_get {w : World} {A : Option Addr} {c n : Nat} {ns : List Int} (h : RI w (.slice A n c) ns) {j : Nat} {x : Int} (hx : ns[j]? = some x) : ∃ a, A = some a ∧ w.cell? (a.add j) = some (.int .i64 x) := by
  obtain ⟨A', c', he, h1, h2, h3, h4, h5⟩ := h
  injection he with e1 e2 e3
  subst e1
  exact h5 j _ (by rw [List.getElem?_map, hx]; rfl)
theorem rs_get {w : World} {A : Option Addr} {c n : Nat} {ns : List ByteArray} (h : RS w (.slice A n c) ns) {j : Nat} {x : ByteArray} (hx : ns[j]? = some x) : ∃ a, A = some a ∧ w.cell? (a.add j) = some (.string x) := by
  obtain ⟨A', c', he, h1, h2, h3, h4, h5⟩ := h
  injection he with e1 e2 e3
  subst e1
  exact h5 j _ (by rw [List.getElem?_map, hx]; rfl)
theorem drop_get {X : Type} {l : List X} {k : Nat} {x : X} (h : l[k]? = some x) : l.drop k = x :: l.drop (k + 1) := by
  obtain ⟨h1, h2⟩ := List.getElem?_eq_some_iff.1 h
  rw [List.drop_eq_getElem_cons h1, h2]
/-- What holds at the head of the loop. -/
structure EJ (w wr : World) (c i : Int) (vn vt vp : Value) (s : ByteArray) (ns : List Int) (ts : List ByteArray) (ps : List Prp) (total : Option (List UInt8)) (pos : Nat) (pre : List UInt8) (k1 k2 tb : Nat) (b : Value) : Prop where
  own : OB wr w.heap.size b pre
  mb : MB wr w.heap.size c i vn vt vp
  bel : Below w.heap.size w wr
  len : pre.length ≤ 4 + pos * 5000
  tot : total = (encB (s.data.toList.drop pos) (ns.drop k1) (ts.drop k2) tb ps).map (pre ++ ·)

theorem enc_num_ok2 {x : UInt8} {f l pre : List UInt8} {ns : List Int} {ts : List ByteArray} {k z : Nat} {ps : List Prp} {total : Option (List UInt8)} {n : Int} (h0 : 0 ≤ n) (ht : total = (encB l (n :: ns) ts k ps).map (pre ++ ·)) (hl : l = x :: f) (hz : z = sizeOf' x.toNat) (h : (0 : Int) < z) (hf : fitsB n z = true) : total = (encB f ns ts k ps).map ((pre ++ beB n.toNat z) ++ ·) := by
  obtain ⟨m, rfl⟩ := Int.eq_ofNat_of_zero_le h0
  exact enc_num_ok ht hl hz h hf
set_option maxRecDepth 1000000 in
set_option maxHeartbeats 8000000 in
theorem refEncode_c {w : World} (c i : Int) (ns : List Int) (ts : List ByteArray) (ps : List Prp) {vn vt vp : Value} (hn : RI w vn ns) (ht : RS w vt ts) (hp : RPr w vp ps)
    (hns : ∀ n ∈ ns, n ≤ 9223372036854775807) (hnl : ns.length ≤ 140737488351232) (htl : ts.length ≤ 140737488351232) (hsz : ∀ p ∈ ps, p.nm.size ≤ 140737488351232) (hr : ∀ p ∈ ps, p.r < 18446744073709551616) :
    Calls Tryd.prog 25 #[.agg #[.int .i64 c, .int .i64 i, vn, vt, vp]] w (EncM w (Mth.bytes ⟨c, i, ns, ts, ps⟩)) := by
  obtain ⟨An, cn, rfl, hn1⟩ := rc_form hn
  obtain ⟨At, ct, rfl, ht1⟩ := rc_form ht
  obtain ⟨Ap, cp, rfl, hp1⟩ := rc_form hp
  obtain ⟨total, htot⟩ : ∃ t, t = Mth.bytes ⟨c, i, ns, ts, ps⟩ := ⟨_, rfl⟩
  rw [← htot]
  have HN := Lib.hid hn
  have HTX := Lib.hid ht
  have HP := Lib.hid hp
  have HNS := Lib.hid hns
  have HSZ := Lib.hid hsz
  have HR := Lib.hid hr
  have hplI : (ps.length : Int) ≤ 9223372036854775807 := by
    obtain ⟨_, _, e, h1, h2, _⟩ := hp
    injection e with e1 e2 e3
    omega
  have hnI : (ns.length : Int) ≤ 140737488351232 := by omega
  have htI : (ts.length : Int) ≤ 140737488351232 := by omega
  have bW := Lib.hid ((Below.refl w.heap.size w).alloc (Nat.le_refl _) (.cells #[.int .i64 c, .int .i64 i, .slice An ns.length cn, .slice At ts.length ct, .slice Ap ps.length cp] 26))
  have HM0 := Lib.hid (mb_new w c i (.slice An ns.length cn) (.slice At ts.length ct) (.slice Ap ps.length cp))
  have hF := refForm_c (w := w.alloc (.cells #[.int .i64 c, .int .i64 i, .slice An ns.length cn, .slice At ts.length ct, .slice Ap ps.length cp] 26)) c i
  clear hn ht hp hns hsz hr hnl htl hn1 ht1 hp1
  cases hf : formCI c i with
  | none =>
    rw [hf] at hF
    simp only [Option.getD_none, Option.isSome_none] at hF
    have HF := Lib.hid hF
    have HT := Lib.hid (show total = none by rw [htot]; unfold Mth.bytes; rw [hf]; rfl)
    clear hF htot hf
    go_enter Tryd.func25, Tryd.ntmps25
    go_wp2_with fail
    refine (HF.out).mono ?_
    rintro e w1 ⟨rfl, b1⟩
    go_wp2_with fail
    go_ret2
    exact encM_no HT.out (bW.out.trans (b1.mono bW.out.size))
  | some s =>
    rw [hf] at hF
    simp only [Option.getD_some, Option.isSome_some] at hF
    have HF := Lib.hid hF
    have hT : total = (encB s.data.toList ns ts 0 ps).map ((beB c.toNat 2 ++ beB i.toNat 2) ++ ·) := by rw [htot]; unfold Mth.bytes; rw [hf]; rfl
    have HT := Lib.hid hT
    have HSM := Lib.hid (form_small hf)
    obtain ⟨r1, r2, r3, r4⟩ := form_range hf
    obtain ⟨cn', rfl⟩ := Int.eq_ofNat_of_zero_le r1
    obtain ⟨im', rfl⟩ := Int.eq_ofNat_of_zero_le r3
    clear hF htot hf hT
    go_enter Tryd.func25, Tryd.ntmps25
    go_wp2_with fail
    refine (HF.out).mono ?_
    rintro e w1 ⟨rfl, b1⟩
    have B1 := Lib.hid (bW.out.trans (b1.mono bW.out.size))
    have HMB := Lib.hid (show MB w1.drew w.heap.size cn' im' (.slice An ns.length cn) (.slice At ts.length ct) (.slice Ap ps.length cp) from (show MB w1 w.heap.size cn' im' (.slice An ns.length cn) (.slice At ts.length ct) (.slice Ap ps.length cp) from mb_keeps HM0.out (keepsO_below b1)))
    have bD := Lib.hid B1.out.drew
    clear HF b1 HM0 bW
    go_wp2_with fail
    obtain ⟨q0, q1, q2, q3, q4⟩ := mb_facts HMB.out
    go_region_held3 (fun w' => w'.cell? ⟨w.heap.size, 0, none⟩ = some (.int .i64 cn') ∧ w'.cell? ⟨w.heap.size, 1, none⟩ = some (.int .i64 im'))
      (first | exact ⟨q0, q1⟩ | go_keep)
      (first
        | (go_at_call 20; refine (refBigK_c2 (base := w.heap.size) O2.out B2.size (by simp [beB_len]) im' 2 (by omega) (by omega) _ 2 (by first | rfl | exact IntWalk.u64_in _ (by omega)) rfl).mono ?_; rintro e w3 ⟨v3, rfl, o3, b3, k3⟩; have B3 := B2.trans b3; have O3 := Lib.hid o3; have HMB3 := Lib.hid (mb_keepsT HMB2.out k3); obtain ⟨q0, q1, q2, q3, q4⟩ := mb_facts HMB3.out; clear o3 b3 k3)
        | (go_at_call 20; refine (refBigK_c2 (base := w.heap.size) (ob_nil _ _) bD.out.size (by simp) cn' 2 (by omega) (by omega) _ 2 (by first | rfl | exact IntWalk.u64_in _ (by omega)) rfl).mono ?_; rintro e w2 ⟨v2, rfl, o2, b2, k2⟩; have B2 := bD.out.trans b2; have O2 := Lib.hid o2; have HMB2 := Lib.hid (mb_keepsT HMB.out k2); obtain ⟨q0, q1, q2, q3, q4⟩ := mb_facts HMB2.out; clear o2 b2 k2))
    have hsI : (s.size : Int) ≤ 6 := by have := HSM.out.1; omega
    go_wp2_with fail
    rw [show IntKind.u64.wrap (cn' : Int) = cn' from IntWalk.u64_in _ (by omega), show IntKind.u64.wrap (im' : Int) = im' from IntWalk.u64_in _ (by omega)]
    go_loopw [6, 7, 8, 9, 10] (fun b n t tb i wr => ∃ (pos k1 k2 kt : Nat) (pre : List UInt8), pos ≤ s.size ∧ n = .int .i64 k1 ∧ t = .int .i64 k2 ∧ tb = .bool (decide (0 < kt)) ∧ i = .int .i64 pos ∧ Hid (k1 ≤ pos ∧ k2 ≤ pos) ∧ k1 ≤ ns.length ∧ k2 ≤ ts.length ∧ Hid (EJ w wr cn' im' (.slice An ns.length cn) (.slice At ts.length ct) (.slice Ap ps.length cp) s ns ts ps total pos pre k1 k2 kt b)) (fun _ _ _ _ i _ => s.size - (intOf i).toNat)
    case atStart =>
      exact ⟨0, 0, 0, 0, beB cn' 2 ++ beB im' 2, Nat.zero_le _, rfl, rfl, rfl, rfl, Lib.hid ⟨Nat.le_refl _, Nat.le_refl _⟩, Nat.zero_le _, Nat.zero_le _, Lib.hid ⟨O3.out, HMB3.out, B3, by simp [beB_len], by rw [HT.out]; rfl⟩⟩
    case round =>
      obtain ⟨pos, k1, k2, kt, pre, hpos, rfl, rfl, rfl, rfl, HK, hk1, hk2, HE⟩ := hrel
      clear HT O3 O2 HMB2 HMB3 HMB B3 B2 bD B1 q0 q1 q2 q3 q4
      obtain ⟨_, _, m2, m3, m4⟩ := mb_facts HE.out.mb
      have HPL := Lib.hid (show pre.length ≤ 40000 by have := HE.out.len; have := HSM.out.1; omega)
      have hk1I : (k1 : Int) ≤ 6 := by have := HK.out.1; omega
      have hk2I : (k2 : Int) ≤ 6 := by have := HK.out.2; omega
      have HK1 := Lib.hid hk1
      have HK2 := Lib.hid hk2
      clear hk1 hk2
      by_cases hlt : pos < s.size
      · have hdr := drop_at hlt
        obtain ⟨x, hx⟩ : ∃ x : UInt8, x = s[pos] := ⟨_, rfl⟩
        have hxv : s[pos] = x := hx.symm
        have hltI : (pos : Int) < s.size := by omega
        rw [← hx] at hdr
        have HDR := Lib.hid hdr
        have HPOS := Lib.hid hlt
        obtain ⟨z, hz⟩ : ∃ z, z = sizeOf' (x.toNat : Int) := ⟨_, rfl⟩
        have hSZ := refSize_c (w := wr) x
        rw [← hz] at hSZ
        have HSZC := Lib.hid hSZ
        have HZ := Lib.hid hz
        clear hdr hx hz hSZ hpos
        go_upto_region 11 with (go_at_call 46; refine (HSZC.out).mono ?_; rintro e w5 ⟨rfl, rfl⟩)
        clear hxv hltI
        by_cases hz0 : 0 < z
        · have hzI : (0 : Int) < z := by omega
          have hz4 : z = 1 ∨ z = 2 ∨ z = 4 ∨ z = 8 := by rw [HZ.out]; rcases size_cases (x.toNat : Int) with e | e | e | e | e <;> (have := HZ.out; omega)
          by_cases hk : k1 < ns.length
          · obtain ⟨n, hn⟩ : ∃ n, ns[k1]? = some n := ⟨_, List.getElem?_eq_getElem hk⟩
            obtain ⟨a7, rfl, hc0⟩ := ri_get HN.out hn
            have hc := cell_below HE.out.bel (World.block_lt_of_cell? w _ hc0) hc0
            have HNSD := Lib.hid (drop_get hn)
            have hnb : n ≤ 9223372036854775807 := HNS.out n (List.mem_of_getElem? hn)
            have hkI : (k1 : Int) < ns.length := by omega
            have hk10 : (0 : Int) ≤ k1 := by omega
            have HLK := Lib.hid (show k1 + 1 ≤ ns.length from hk)
            clear hn hc0 hk hz0
            rcases hz4 with hzz | hzz | hzz | hzz
            · subst hzz
              by_cases h0 : n < 0
              · have HFF := Lib.hid (show fitsB n 1 = false by unfold fitsB; rw [decide_eq_false (by omega)]; rfl)
                go_wp2_with fail
                go_ret2
                exact encM_no (enc_num_bad (HNSD.out ▸ HE.out.tot) HDR.out HZ.out (by omega) HFF.out) HE.out.bel
              by_cases h1 : 256 ≤ n
              · have HFF := Lib.hid (show fitsB n 1 = false by unfold fitsB; rw [decide_eq_true (by omega), decide_eq_false (by omega), decide_eq_false (by show ¬ n < 256; omega)]; rfl)
                have h0' : 0 ≤ n := by omega
                clear h0
                go_wp2_with fail
                go_ret2
                exact encM_no (enc_num_bad (HNSD.out ▸ HE.out.tot) HDR.out HZ.out (by omega) HFF.out) HE.out.bel
              have h1' : n < 256 := by omega
              have HFF := Lib.hid (show fitsB n 1 = true by unfold fitsB; rw [decide_eq_true (by omega), decide_eq_false (by omega), decide_eq_true (by show n < 256; omega)]; rfl)
              have h0' : 0 ≤ n := by omega
              have HH0 := Lib.hid h0'
              have HM := Lib.hid (show n.toNat < 18446744073709551616 by omega)
              have HNN := Lib.hid (show n = ((n.toNat : Nat) : Int) by omega)
              have HUW := Lib.hid (show IntKind.u64.wrap n = ((n.toNat : Nat) : Int) from (IntWalk.u64_in _ (by omega)).trans (by omega))
              clear h0 h1 hnb
              go_wp2_with (go_at_call 20; refine (refBigK_c2 (base := w.heap.size) HE.out.own HE.out.bel.size (by have := HPL.out; omega) n.toNat 1 HM.out (by omega) _ _ (by first | exact HNN.out | exact HUW.out) rfl).mono ?_; rintro e w7 ⟨v7, rfl, o7, b7, k7⟩; have O7 := Lib.hid o7; have M7 := Lib.hid (mb_keepsT HE.out.mb k7); have B7 := Lib.hid (HE.out.bel.trans b7); clear o7 b7 k7)
              go_roundw
              case rel => exact ⟨pos + 1, k1 + 1, k2, kt, pre ++ beB n.toNat 1, HPOS.out, by go_num, rfl, rfl, by go_num, Lib.hid ⟨Nat.succ_le_succ HK.out.1, Nat.le_succ_of_le HK.out.2⟩, HLK.out, HK2.out, Lib.hid ⟨O7.out, M7.out, B7.out, by have := HE.out.len; simp only [List.length_append, beB_len]; omega, enc_num_ok2 HH0.out (HNSD.out ▸ HE.out.tot) HDR.out HZ.out (by omega) HFF.out⟩⟩
              case measure => have := HPOS.out; simp [intOf]; omega
            · subst hzz
              by_cases h0 : n < 0
              · have HFF := Lib.hid (show fitsB n 2 = false by unfold fitsB; rw [decide_eq_false (by omega)]; rfl)
                go_wp2_with fail
                go_ret2
                exact encM_no (enc_num_bad (HNSD.out ▸ HE.out.tot) HDR.out HZ.out (by omega) HFF.out) HE.out.bel
              by_cases h1 : 65536 ≤ n
              · have HFF := Lib.hid (show fitsB n 2 = false by unfold fitsB; rw [decide_eq_true (by omega), decide_eq_false (by omega), decide_eq_false (by show ¬ n < 65536; omega)]; rfl)
                have h0' : 0 ≤ n := by omega
                clear h0
                go_wp2_with fail
                go_ret2
                exact encM_no (enc_num_bad (HNSD.out ▸ HE.out.tot) HDR.out HZ.out (by omega) HFF.out) HE.out.bel
              have h1' : n < 65536 := by omega
              have HFF := Lib.hid (show fitsB n 2 = true by unfold fitsB; rw [decide_eq_true (by omega), decide_eq_false (by omega), decide_eq_true (by show n < 65536; omega)]; rfl)
              have h0' : 0 ≤ n := by omega
              have HH0 := Lib.hid h0'
              have HM := Lib.hid (show n.toNat < 18446744073709551616 by omega)
              have HNN := Lib.hid (show n = ((n.toNat : Nat) : Int) by omega)
              have HUW := Lib.hid (show IntKind.u64.wrap n = ((n.toNat : Nat) : Int) from (IntWalk.u64_in _ (by omega)).trans (by omega))
              clear h0 h1 hnb
              go_wp2_with (go_at_call 20; refine (refBigK_c2 (base := w.heap.size) HE.out.own HE.out.bel.size (by have := HPL.out; omega) n.toNat 2 HM.out (by omega) _ _ (by first | exact HNN.out | exact HUW.out) rfl).mono ?_; rintro e w7 ⟨v7, rfl, o7, b7, k7⟩; have O7 := Lib.hid o7; have M7 := Lib.hid (mb_keepsT HE.out.mb k7); have B7 := Lib.hid (HE.out.bel.trans b7); clear o7 b7 k7)
              go_roundw
              case rel => exact ⟨pos + 1, k1 + 1, k2, kt, pre ++ beB n.toNat 2, HPOS.out, by go_num, rfl, rfl, by go_num, Lib.hid ⟨Nat.succ_le_succ HK.out.1, Nat.le_succ_of_le HK.out.2⟩, HLK.out, HK2.out, Lib.hid ⟨O7.out, M7.out, B7.out, by have := HE.out.len; simp only [List.length_append, beB_len]; omega, enc_num_ok2 HH0.out (HNSD.out ▸ HE.out.tot) HDR.out HZ.out (by omega) HFF.out⟩⟩
              case measure => have := HPOS.out; simp [intOf]; omega
            · subst hzz
              by_cases h0 : n < 0
              · have HFF := Lib.hid (show fitsB n 4 = false by unfold fitsB; rw [decide_eq_false (by omega)]; rfl)
                go_wp2_with fail
                go_ret2
                exact encM_no (enc_num_bad (HNSD.out ▸ HE.out.tot) HDR.out HZ.out (by omega) HFF.out) HE.out.bel
              by_cases h1 : 4294967296 ≤ n
              · have HFF := Lib.hid (show fitsB n 4 = false by unfold fitsB; rw [decide_eq_true (by omega), decide_eq_false (by omega), decide_eq_false (by show ¬ n < 4294967296; omega)]; rfl)
                have h0' : 0 ≤ n := by omega
                clear h0
                go_wp2_with fail
                go_ret2
                exact encM_no (enc_num_bad (HNSD.out ▸ HE.out.tot) HDR.out HZ.out (by omega) HFF.out) HE.out.bel
              have h1' : n < 4294967296 := by omega
              have HFF := Lib.hid (show fitsB n 4 = true by unfold fitsB; rw [decide_eq_true (by omega), decide_eq_false (by omega), decide_eq_true (by show n < 4294967296; omega)]; rfl)
              have h0' : 0 ≤ n := by omega
              have HH0 := Lib.hid h0'
              have HM := Lib.hid (show n.toNat < 18446744073709551616 by omega)
              have HNN := Lib.hid (show n = ((n.toNat : Nat) : Int) by omega)
              have HUW := Lib.hid (show IntKind.u64.wrap n = ((n.toNat : Nat) : Int) from (IntWalk.u64_in _ (by omega)).trans (by omega))
              clear h0 h1 hnb
              go_wp2_with (go_at_call 20; refine (refBigK_c2 (base := w.heap.size) HE.out.own HE.out.bel.size (by have := HPL.out; omega) n.toNat 4 HM.out (by omega) _ _ (by first | exact HNN.out | exact HUW.out) rfl).mono ?_; rintro e w7 ⟨v7, rfl, o7, b7, k7⟩; have O7 := Lib.hid o7; have M7 := Lib.hid (mb_keepsT HE.out.mb k7); have B7 := Lib.hid (HE.out.bel.trans b7); clear o7 b7 k7)
              go_roundw
              case rel => exact ⟨pos + 1, k1 + 1, k2, kt, pre ++ beB n.toNat 4, HPOS.out, by go_num, rfl, rfl, by go_num, Lib.hid ⟨Nat.succ_le_succ HK.out.1, Nat.le_succ_of_le HK.out.2⟩, HLK.out, HK2.out, Lib.hid ⟨O7.out, M7.out, B7.out, by have := HE.out.len; simp only [List.length_append, beB_len]; omega, enc_num_ok2 HH0.out (HNSD.out ▸ HE.out.tot) HDR.out HZ.out (by omega) HFF.out⟩⟩
              case measure => have := HPOS.out; simp [intOf]; omega
            · subst hzz
              by_cases h0 : n < 0
              · have HFF := Lib.hid (show fitsB n 8 = false by unfold fitsB; rw [decide_eq_false (by omega)]; rfl)
                go_wp2_with fail
                go_ret2
                exact encM_no (enc_num_bad (HNSD.out ▸ HE.out.tot) HDR.out HZ.out (by omega) HFF.out) HE.out.bel
              have HFF := Lib.hid (show fitsB n 8 = true by unfold fitsB; rw [decide_eq_true (by omega), decide_eq_true (by omega)]; rfl)
              have h0' : 0 ≤ n := by omega
              have HH0 := Lib.hid h0'
              have HM := Lib.hid (show n.toNat < 18446744073709551616 by omega)
              have HNN := Lib.hid (show n = ((n.toNat : Nat) : Int) by omega)
              have HUW := Lib.hid (show IntKind.u64.wrap n = ((n.toNat : Nat) : Int) from (IntWalk.u64_in _ (by omega)).trans (by omega))
              clear h0 hnb
              go_wp2_with (go_at_call 20; refine (refBigK_c2 (base := w.heap.size) HE.out.own HE.out.bel.size (by have := HPL.out; omega) n.toNat 8 HM.out (by omega) _ _ (by first | exact HNN.out | exact HUW.out) rfl).mono ?_; rintro e w7 ⟨v7, rfl, o7, b7, k7⟩; have O7 := Lib.hid o7; have M7 := Lib.hid (mb_keepsT HE.out.mb k7); have B7 := Lib.hid (HE.out.bel.trans b7); clear o7 b7 k7)
              go_roundw
              case rel => exact ⟨pos + 1, k1 + 1, k2, kt, pre ++ beB n.toNat 8, HPOS.out, by go_num, rfl, rfl, by go_num, Lib.hid ⟨Nat.succ_le_succ HK.out.1, Nat.le_succ_of_le HK.out.2⟩, HLK.out, HK2.out, Lib.hid ⟨O7.out, M7.out, B7.out, by have := HE.out.len; simp only [List.length_append, beB_len]; omega, enc_num_ok2 HH0.out (HNSD.out ▸ HE.out.tot) HDR.out HZ.out (by omega) HFF.out⟩⟩
              case measure => have := HPOS.out; simp [intOf]; omega
          · have hkI : (ns.length : Int) ≤ k1 := by omega
            have hnil : ns.drop k1 = [] := List.drop_eq_nil_of_le (by omega)
            have HNO := Lib.hid (show total = none by have h := HE.out.tot; rw [hnil] at h; exact enc_num_nil h HDR.out HZ.out hzI)
            clear hk hnil hz4 hz0
            go_wp2_with fail
            go_ret2
            exact encM_no HNO.out HE.out.bel
        · have hz1 : z = 0 := by omega
          subst hz1
          clear hz0
          by_cases hx : x = 84
          · have HX := Lib.hid hx
            have hxI : ((x.toNat : Int) == 84) = true := by rw [hx]; rfl
            clear hx
            cases hv : validB ps with
            | false =>
              have HPB := Lib.hid (refPutBad_c (v := u6) (rc_below HP.out HE.out.bel) (fun p hp => ⟨HSZ.out p hp, HR.out p hp⟩) hv)
              have HV := Lib.hid hv
              clear hv
              go_wp2_with (go_at_call 15; refine (HPB.out).mono ?_; rintro e w6 ⟨rfl, b6⟩)
              go_ret2
              exact encM_no (enc_tab_bad HE.out.tot HDR.out HZ.out rfl HX.out HV.out) (HE.out.bel.trans (b6.mono HE.out.bel.size))
            | true =>
              have HPB := Lib.hid (refPut_c (base := 0) (ob_rb HE.out.own) (by have := HPL.out; omega) (rc_below HP.out HE.out.bel) HSZ.out HR.out hv)
              have HV := Lib.hid hv
              have HPP := Lib.hid (show (propsB ps).length ≤ 4448 by have l1 := propsB_len ps (valid_all hv); have m1 := valid_len hv; omega)
              clear hv
              go_wp2_with (go_at_call 15; refine (HPB.out).mono ?_; rintro e w6 ⟨v6, rfl, o6, b6⟩; have O6 := Lib.hid (own_lower o6 HE.out.bel.size); have M6 := Lib.hid (mb_keeps HE.out.mb (keepsO_below b6)); have B6 := Lib.hid (HE.out.bel.trans (b6.mono HE.out.bel.size)); clear o6 b6)
              go_roundw
              case rel => exact ⟨pos + 1, k1, k2, kt + 1, pre ++ (beB (propsB ps).length 4 ++ propsB ps), HPOS.out, rfl, rfl, by simp, by go_num, Lib.hid ⟨Nat.le_succ_of_le HK.out.1, Nat.le_succ_of_le HK.out.2⟩, HK1.out, HK2.out, Lib.hid ⟨by have h := O6.out; rw [List.append_assoc] at h; exact h, M6.out, B6.out, by have := HE.out.len; have := HPP.out; simp only [List.length_append, beB_len]; omega, enc_tab_ok HE.out.tot HDR.out HZ.out rfl HX.out HV.out⟩⟩
              case measure => have := HPOS.out; simp [intOf]; omega
          · have HX := Lib.hid hx
            have hxI : ((x.toNat : Int) == 84) = false := beq_eq_false_iff_ne.2 (fun e => hx (UInt8.toNat_inj.1 (by show x.toNat = 84; omega)))
            clear hx
            by_cases hk : k2 < ts.length
            · obtain ⟨y, hy0⟩ : ∃ y, ts[k2]? = some y := ⟨_, List.getElem?_eq_getElem hk⟩
              obtain ⟨a8, rfl, hc0⟩ := rs_get HTX.out hy0
              have hc := cell_below HE.out.bel (World.block_lt_of_cell? w _ hc0) hc0
              have HTSD := Lib.hid (drop_get hy0)
              have hkI : (k2 : Int) < ts.length := by omega
              have hk20 : (0 : Int) ≤ k2 := by omega
              have HLK := Lib.hid (show k2 + 1 ≤ ts.length from hk)
              clear hy0 hc0 hk
              by_cases hy : 1024 < y.size
              · have hyI : (1024 : Int) < y.size := by omega
                have HY := Lib.hid hy
                clear hy
                go_wp2_with fail
                go_ret2
                exact encM_no (enc_txt_bad (HTSD.out ▸ HE.out.tot) HDR.out HZ.out rfl HX.out (fun h => by have := HY.out; omega)) HE.out.bel
              have hyI : (y.size : Int) ≤ 1024 := by omega
              have HY := Lib.hid hy
              clear hy
              by_cases hs : x = 115
              · have HS := Lib.hid hs
                have hsI : ((x.toNat : Int) == 115) = true := by rw [hs]; rfl
                clear hs
                by_cases hy2 : 255 < y.size
                · have hy2I : (255 : Int) < y.size := by omega
                  have HY2 := Lib.hid hy2
                  clear hy2
                  go_wp2_with fail
                  go_ret2
                  exact encM_no (enc_txt_bad (HTSD.out ▸ HE.out.tot) HDR.out HZ.out rfl HX.out (fun h => by have := HY2.out; have := h.2 HS.out; omega)) HE.out.bel
                have hy2I : (y.size : Int) ≤ 255 := by omega
                have HY2 := Lib.hid hy2
                have HRB1 := Lib.hid (show RB (wr.alloc (.cells #[.int .u8 (y.size : Int)] 5)) (.slice (some ⟨wr.heap.size, 0, none⟩) 1 1) [UInt8.ofNat y.size] from by have h := rb_one wr (UInt8.ofNat y.size); rw [show (((UInt8.ofNat y.size).toNat : Nat) : Int) = (y.size : Int) by rw [UInt8.toNat_ofNat']; omega] at h; exact h)
                clear hy2
                go_wp2_with (at_builtin; first
                  | (refine app_s (w0 := w) (base := w.heap.size) (l := pre ++ [UInt8.ofNat y.size]) rfl (.tmp 128) (.tmp 129) rfl y rfl rfl O5.out B5.out B5.out.size (by have := HPL.out; have := HY.out; simp only [List.length_append, List.length_cons, List.length_nil]; omega) ?_; intro v7 w7 o7 B7' g7; have O7 := Lib.hid o7; have M7 := Lib.hid (mb_keepsT M5.out (keeps_grown O5.out g7)); have B7 := Lib.hid B7'; clear o7 g7 B7')
                  | (refine app_b (w0 := w) (base := w.heap.size) (l := pre) (m := [UInt8.ofNat y.size]) rfl (.tmp 117) (.tmp 121) rfl rfl rfl (HE.out.own.alloc _) HRB1.out (HE.out.bel.alloc HE.out.bel.size _) (Nat.le_trans HE.out.bel.size (by show _ ≤ (Array.push _ _).size; simp)) (by have := HPL.out; simp; omega) ?_; intro v5 w5 o5 B5' g5 _; have O5 := Lib.hid o5; have M5 := Lib.hid (mb_keepsT (mb_keepsT HE.out.mb (keeps_alloc _ _)) (keeps_grown (HE.out.own.alloc _) g5)); have B5 := Lib.hid B5'; clear o5 g5 B5'))
                go_roundw
                case rel => exact ⟨pos + 1, k1, k2 + 1, kt, pre ++ (beB y.size (if x = 115 then 1 else 4) ++ y.data.toList), HPOS.out, rfl, by go_num, rfl, by go_num, Lib.hid ⟨Nat.le_succ_of_le HK.out.1, Nat.succ_le_succ HK.out.2⟩, HK1.out, HLK.out, Lib.hid ⟨by have h := O7.out; rw [List.append_assoc] at h; rw [if_pos HS.out, beB_one]; exact h, M7.out, B7.out, by have := HE.out.len; have := HY.out; rw [if_pos HS.out]; simp only [List.length_append, beB_len, ba_size]; omega, enc_txt_ok (HTSD.out ▸ HE.out.tot) HDR.out HZ.out rfl HX.out ⟨by have := HY.out; omega, fun _ => by have := HY2.out; omega⟩⟩⟩
                case measure => have := HPOS.out; simp [intOf]; omega
              · have HS := Lib.hid hs
                have hsI : ((x.toNat : Int) == 115) = false := beq_eq_false_iff_ne.2 (fun e => hs (UInt8.toNat_inj.1 (by show x.toNat = 115; omega)))
                clear hs
                go_wp2_with (first
                  | (at_builtin; refine app_s (w0 := w) (base := w.heap.size) (l := pre ++ beB y.size 4) rfl (.tmp 128) (.tmp 129) rfl y rfl rfl O5.out B5.out B5.out.size (by have := HPL.out; have := HY.out; simp only [List.length_append, beB_len]; omega) ?_; intro v7 w7 o7 B7' g7; have O7 := Lib.hid o7; have M7 := Lib.hid (mb_keepsT M5.out (keeps_grown O5.out g7)); have B7 := Lib.hid B7'; clear o7 g7 B7')
                  | (go_at_call 20; refine (refBigK_c2 (base := w.heap.size) HE.out.own HE.out.bel.size (by have := HPL.out; omega) y.size 4 (by have := HY.out; omega) (by omega) _ 4 (by first | rfl | exact IntWalk.u64_in _ (by have := HY.out; omega)) rfl).mono ?_; rintro e w5 ⟨v5, rfl, o5, b5, k5⟩; have O5 := Lib.hid o5; have M5 := Lib.hid (mb_keepsT HE.out.mb k5); have B5 := Lib.hid (HE.out.bel.trans b5); clear o5 b5 k5))
                go_roundw
                case rel => exact ⟨pos + 1, k1, k2 + 1, kt, pre ++ (beB y.size (if x = 115 then 1 else 4) ++ y.data.toList), HPOS.out, rfl, by go_num, rfl, by go_num, Lib.hid ⟨Nat.le_succ_of_le HK.out.1, Nat.succ_le_succ HK.out.2⟩, HK1.out, HLK.out, Lib.hid ⟨by have h := O7.out; rw [List.append_assoc] at h; rw [if_neg HS.out]; exact h, M7.out, B7.out, by have := HE.out.len; have := HY.out; rw [if_neg HS.out]; simp only [List.length_append, beB_len, ba_size]; omega, enc_txt_ok (HTSD.out ▸ HE.out.tot) HDR.out HZ.out rfl HX.out ⟨by have := HY.out; omega, fun h => absurd h HS.out⟩⟩⟩
                case measure => have := HPOS.out; simp [intOf]; omega
            · have hkI : (ts.length : Int) ≤ k2 := by omega
              have hnil : ts.drop k2 = [] := List.drop_eq_nil_of_le (by omega)
              have HNO := Lib.hid (show total = none by have h := HE.out.tot; rw [hnil] at h; exact enc_txt_nil h HDR.out HZ.out rfl HX.out)
              clear hk hnil
              go_wp2_with fail
              go_ret2
              exact encM_no HNO.out HE.out.bel
      · have hge : (s.size : Int) ≤ pos := by omega
        have hnil : s.data.toList.drop pos = [] := List.drop_eq_nil_of_le (by rw [ba_size]; omega)
        have HEN := Lib.hid (enc_end HE.out.tot hnil)
        clear hlt hnil hpos
        by_cases hn : k1 < ns.length
        · have hnI2 : (k1 : Int) < ns.length := by omega
          have HNO := Lib.hid (show total = none by rw [HEN.out, if_neg (fun h => by have h1 := congrArg List.length h.1; rw [List.length_drop] at h1; simp at h1; omega)])
          clear hn
          go_wp2_with fail
          go_ret2
          exact encM_no HNO.out HE.out.bel
        have hnI2 : (ns.length : Int) ≤ k1 := by omega
        have HND := Lib.hid (show ns.drop k1 = [] from List.drop_eq_nil_of_le (by omega))
        by_cases htx : k2 < ts.length
        · have htI2 : (k2 : Int) < ts.length := by omega
          have HNO := Lib.hid (show total = none by rw [HEN.out, if_neg (fun h => by have h1 := congrArg List.length h.2.1; rw [List.length_drop] at h1; simp at h1; omega)])
          clear hn htx
          go_wp2_with fail
          go_ret2
          exact encM_no HNO.out HE.out.bel
        have htI2 : (ts.length : Int) ≤ k2 := by omega
        have HTD := Lib.hid (show ts.drop k2 = [] from List.drop_eq_nil_of_le (by omega))
        clear hn htx
        by_cases hk0 : 0 < kt
        · have HYES := Lib.hid (show total = some pre by rw [HEN.out, if_pos ⟨HND.out, HTD.out, fun h => by omega⟩])
          rw [decide_eq_true hk0]
          clear hk0
          go_wp2_with fail
          go_ret2
          exact encM_yes HYES.out HE.out.bel HE.out.own
        · rw [decide_eq_false hk0]
          have hkt : kt = 0 := by omega
          by_cases hps : 0 < ps.length
          · have hpsI : (0 : Int) < ps.length := by omega
            have HNO := Lib.hid (show total = none by rw [HEN.out, if_neg (fun h => by have := h.2.2 hkt; omega)])
            clear hk0 hkt hps
            go_wp2_with fail
            go_ret2
            exact encM_no HNO.out HE.out.bel
          · have hpsI : ¬ (0 : Int) < ps.length := by omega
            have HYES := Lib.hid (show total = some pre by rw [HEN.out, if_pos ⟨HND.out, HTD.out, fun _ => by omega⟩])
            clear hk0 hkt hps
            go_wp2_with fail
            go_ret2
            exact encM_yes HYES.out HE.out.bel HE.out.own
end Go.Proofs.YteigbejidfkhpaaDoor
