/- Plain law: a valid list's bytes are read as the list. -/
import Derived.Test.YteigbejidfkhpaaDoorTkC
import Derived.Test.YteigbejidfkhpaaDoorTbO
namespace Go.Proofs.YteigbejidfkhpaaDoor
open Go Go.Proofs Go.RowKit
set_option linter.unusedSimpArgs false
set_option linter.unusedVariables false

def bs (l : List UInt8) : ByteArray := ⟨l.toArray⟩
theorem bs_size (l : List UInt8) : (bs l).size = l.length := by unfold bs; show l.toArray.size = _; simp
theorem bs_list (l : List UInt8) : (bs l).data.toList = l := by simp [bs]
theorem bs_of (s : ByteArray) : bs s.data.toList = s := ba_ext (bs_list _)
theorem ba_extract (s : ByteArray) (a b : Nat) : (s.extract a b).data.toList = (s.data.toList.take b).drop a := by
  rw [Lib.extract_data, List.drop_take]
theorem bs_extract (l : List UInt8) (a b : Nat) : (bs l).extract a b = bs ((l.take b).drop a) := by
  apply ba_ext
  rw [bs_list, ba_extract, bs_list]
theorem takeP_app (x r : List UInt8) : takeP x.length (bs (x ++ r)) = some (bs x, bs r) := by
  unfold takeP
  rw [if_pos (by rw [bs_size, List.length_append]; omega), bs_extract, bs_extract]
  have e1 : (x ++ r).take (x.length + r.length) = x ++ r := List.take_of_length_le (by rw [List.length_append]; omega)
  simp [bs_size, e1]
theorem takeP_short {n : Nat} {l : List UInt8} (h : l.length < n) : takeP n (bs l) = none := by
  unfold takeP
  rw [if_neg (by rw [bs_size]; omega)]
theorem numP_app (k n : Nat) (hn : n < 256 ^ k) (r : List UInt8) : numP k (bs (beB n k ++ r)) = some (n, bs r) := by
  have h := takeP_app (beB n k) r
  rw [beB_len] at h
  unfold numP
  rw [h]
  simp only [Option.map_some, bs_list]
  rw [natB_beB, Nat.mod_eq_of_lt hn]
theorem numP_short {k : Nat} {l : List UInt8} (h : l.length < k) : numP k (bs l) = none := by
  unfold numP
  rw [takeP_short h]
  rfl
theorem longP_app (x r : List UInt8) (hx : x.length < 4294967296) : longP (bs (beB x.length 4 ++ (x ++ r))) = some (bs x, bs r) := by
  unfold longP
  rw [numP_app 4 x.length hx]
  exact takeP_app x r
theorem shortP_app (x r : List UInt8) (hx : x.length < 256) : shortP (bs (UInt8.ofNat x.length :: (x ++ r))) = some (bs x, bs r) := by
  have h : UInt8.ofNat x.length :: (x ++ r) = beB x.length 1 ++ (x ++ r) := by simp [beB, dig]
  unfold shortP
  rw [h, numP_app 1 x.length hx]
  exact takeP_app x r
theorem takeP_one (c : UInt8) (r : List UInt8) : takeP 1 (bs (c :: r)) = some (⟨#[c]⟩, bs r) := takeP_app [c] r

theorem sgn64 (n : Int) (h0 : -9223372036854775808 ≤ n) (h1 : n ≤ 9223372036854775807) : sgn 64 (n % 18446744073709551616).toNat = n := by
  unfold sgn
  show (if _ < 9223372036854775808 then _ else _ - 18446744073709551616) = n
  split <;> omega
theorem widR_back {r n : Nat} (hr : r < 2 ^ 64) (hc : r = canonR r) (h : narB r = some n) : widR n = r := by
  by_cases hn : nanB r = true
  · have e : r = 9221120237041090561 := by rw [hc]; unfold canonR; rw [if_pos hn]
    have e2 : n = 2143289344 := by
      unfold narB at h
      rw [if_pos hn] at h
      injection h with h
      exact h.symm
    rw [e, e2]
    decide +kernel
  · have hn' : nanB r = false := by simpa using hn
    obtain ⟨v, hv, ho, hv64⟩ := narB_spec hn' h
    rcases FloatL.order_eq hv64 hr ho with ⟨_, hz⟩ | e
    · have h2 : r = 0 ∨ r = 9223372036854775808 := by
        have : (2 : Nat) ^ 63 = 9223372036854775808 := by decide
        have : (2 : Nat) ^ 64 = 18446744073709551616 := by decide
        omega
      rcases h2 with rfl | rfl
      · have e : narB 0 = some 0 := by decide +kernel
        rw [e] at h
        injection h with h
        rw [← h]
        decide +kernel
      · have e : narB 9223372036854775808 = some 2147483648 := by decide +kernel
        rw [e] at h
        injection h with h
        rw [← h]
        decide +kernel
    · subst e
      unfold widR
      rw [hv]
      exact hc.symm

theorem valP_app {p : Prp} (hp : p.fit) (r : List UInt8) : valP (bs (valB p ++ r)) = some (⟨p.k, p.n, p.t, p.r⟩, bs r) := by
  obtain ⟨gp, rp, np0, np1⟩ := hp
  rcases good_of gp with ⟨a, b, c⟩ | ⟨a, b, c, d⟩ | ⟨a, b, c, d⟩ | ⟨a, b, c, d⟩
  · rw [val1 a, List.cons_append]
    unfold valP
    rw [takeP_one, Option.bind_some]
    show valQ ⟨#[108]⟩ _ = _
    unfold valQ
    rw [if_neg (by decide), if_neg (by decide), if_neg (by decide), if_neg (by decide), if_pos rfl, numP_app 8 _ (by show _ < 18446744073709551616; omega), Option.map_some]
    rw [sgn64 _ np0 np1, ba_nil b, a, c]
  · rw [val2 a, List.cons_append, List.cons_append, List.nil_append]
    unfold valP
    rw [takeP_one, Option.bind_some]
    show valQ ⟨#[116]⟩ _ = _
    unfold valQ
    have h := numP_app 1 p.n.toNat (by rw [Nat.pow_one]; omega) r
    rw [show beB p.n.toNat 1 ++ r = UInt8.ofNat p.n.toNat :: r by simp [beB, dig]] at h
    rw [if_pos rfl, h, Option.map_some]
    rw [ba_nil b, a, c, show ((p.n.toNat : Nat) : Int) = p.n by omega]
  · rw [val3 a, List.cons_append, List.append_assoc]
    unfold valP
    rw [takeP_one, Option.bind_some]
    show valQ ⟨#[83]⟩ _ = _
    unfold valQ
    have h := longP_app p.t.data.toList r (by rw [ba_size]; omega)
    rw [ba_size] at h
    rw [if_neg (by decide), if_neg (by decide), if_neg (by decide), if_neg (by decide), if_neg (by decide), if_neg (by decide), if_neg (by decide), if_pos rfl, h, Option.map_some]
    rw [bs_of, a, b, c]
  · rw [val4 a]
    unfold realB
    cases hn : narB p.r with
    | some n =>
      dsimp only
      rw [List.cons_append]
      unfold valP
      rw [takeP_one, Option.bind_some]
      show valQ ⟨#[102]⟩ _ = _
      unfold valQ
      rw [if_neg (by decide), if_neg (by decide), if_neg (by decide), if_neg (by decide), if_neg (by decide), if_pos rfl, numP_app 4 n (narB_lt hn), Option.map_some]
      rw [widR_back rp d hn, ba_nil c, a, b]
    | none =>
      dsimp only
      rw [List.cons_append]
      unfold valP
      rw [takeP_one, Option.bind_some]
      show valQ ⟨#[100]⟩ _ = _
      unfold valQ
      rw [if_neg (by decide), if_neg (by decide), if_neg (by decide), if_neg (by decide), if_neg (by decide), if_neg (by decide), if_pos rfl, numP_app 8 p.r rp, Option.map_some]
      dsimp only
      rw [← d, ba_nil c, a, b]
theorem itemP_app {p : Prp} (hn : p.nm.size ≤ 16) (hp : p.fit) (r : List UInt8) : itemP (bs (propB p ++ r)) = some (p, bs r) := by
  unfold itemP propB
  have h := shortP_app p.nm.data.toList (valB p ++ r) (by rw [ba_size]; omega)
  rw [ba_size] at h
  rw [List.cons_append, List.append_assoc, h, Option.bind_some]
  dsimp only
  rw [valP_app hp, Option.map_some, bs_of]
theorem itemsP_app : ∀ (ps : List Prp), (∀ p ∈ ps, p.nm.size ≤ 16 ∧ p.fit) → itemsP (bs (propsB ps)).size (bs (propsB ps)) = some ps
  | [], _ => itemsP_nil (by rw [bs_size]; rfl)
  | p :: r, h => by
    have e : propsB (p :: r) = propB p ++ propsB r := by simp [propsB]
    rw [e, itemsP_step (by rw [bs_size]; unfold propB; simp), itemP_app (h p (List.mem_cons_self ..)).1 (h p (List.mem_cons_self ..)).2, Option.bind_some]
    dsimp only
    rw [itemsP_app r (fun q hq => h q (List.mem_cons_of_mem _ hq))]
    rfl

/-! ### A sorted list is sorted as it is; a table's bytes -/
open Go.Sort in
theorem insOuter_id {d : Array Prp} {b : Nat} (h : ∀ i, 0 < i → i < b → ltOf cfP d[i]! d[i - 1]! = false) : ∀ (n i : Nat), b - i ≤ n → 0 < i → insOuter (ltOf cfP) 0 b i d = d
  | 0, i, hn, h0 => insOuter_stop _ _ _ _ _ (by omega)
  | n + 1, i, hn, h0 => by
    by_cases hi : i < b
    · rw [insOuter_go _ _ _ _ _ hi, insInner_stop _ _ _ _ (.inr (h i h0 hi))]
      exact insOuter_id h n (i + 1) (by omega) (by omega)
    · exact insOuter_stop _ _ _ _ _ hi
theorem valid_lt : ∀ (ps : List Prp) (o : Option ByteArray), validL o ps = true → ∀ i p q, ps[i]? = some p → ps[i + 1]? = some q → Go.Op.bytesLess p.nm.toList q.nm.toList = true
  | [], _, _, _, _, _, hp, _ => by simp at hp
  | a :: r, o, h, i, p, q, hp, hq => by
    have hr : validL (some a.nm) r = true := by
      cases o <;> (unfold validL at h; simp only [Bool.and_eq_true] at h; exact h.2)
    cases i with
    | zero =>
      simp only [List.getElem?_cons_zero, Option.some.injEq] at hp
      subst hp
      cases r with
      | nil => simp at hq
      | cons b r =>
        simp only [List.getElem?_cons_succ, List.getElem?_cons_zero, Option.some.injEq] at hq
        subst hq
        unfold validL at hr
        simp only [Bool.and_eq_true] at hr
        exact hr.1.2
    | succ i => exact valid_lt r _ hr i p q (by simpa using hp) (by simpa using hq)
theorem less_iff (a b : ByteArray) : Go.Op.bytesLess a.toList b.toList = true ↔ a.data.toList < b.data.toList := by
  rw [bytesLess_eq, decide_eq_true_eq, ByteArray.toList_eq, ByteArray.toList_eq]
theorem sortP_valid {ps : List Prp} (h : validB ps = true) : sortP ps = ps := by
  have hv : validL none ps = true := by unfold validB at h; simp only [Bool.and_eq_true] at h; exact h.1
  have hl := valid_lt ps none hv
  unfold sortP Sort.insertionSort
  rw [insOuter_id (d := ps.toArray) (b := ps.length) ?_ ps.length 1 (by omega) (by omega)]
  intro i h0 hi
  obtain ⟨j, rfl⟩ : ∃ j, i = j + 1 := ⟨i - 1, by omega⟩
  have h1 := hl j ps[j] ps[j + 1] (List.getElem?_eq_getElem (by omega)) (List.getElem?_eq_getElem hi)
  rw [less_iff] at h1
  have e1 : ps.toArray[j + 1]! = ps[j + 1] := by simp [getElem!_def, hi]
  have e2 : ps.toArray[j + 1 - 1]! = ps[j] := by simp [getElem!_def, show j < ps.length by omega]
  rw [e1, e2, ltP_no]
  exact fun h2 => List.lt_irrefl _ (List.lt_trans h1 h2)
theorem tabP_valid {ps : List Prp} (h : validB ps = true) : tabP ps = some ps := by
  have := valid_len h
  unfold tabP
  rw [sortP_valid h, if_pos ⟨by omega, h⟩]
/-- What table.Put writes. -/
def putB (ps : List Prp) : List UInt8 := beB (propsB ps).length 4 ++ propsB ps
theorem fit_of {ps : List Prp} (h : validB ps = true) (hf : ∀ p ∈ ps, p.r < 2 ^ 64 ∧ -9223372036854775808 ≤ p.n ∧ p.n ≤ 9223372036854775807) : ∀ p ∈ ps, p.nm.size ≤ 16 ∧ p.fit := fun p hp => by
  obtain ⟨v1, v2⟩ := valid_all h p hp
  obtain ⟨q1, q2, q3⟩ := hf p hp
  unfold nameB at v1
  simp only [Bool.and_eq_true, decide_eq_true_eq] at v1
  exact ⟨v1.1.2, v2, q1, q2, q3⟩
theorem props_small {ps : List Prp} (h : validB ps = true) : (propsB ps).length ≤ 4448 := by
  have l1 := propsB_len ps (valid_all h)
  have m1 := valid_len h
  omega
theorem tableP_put {ps : List Prp} (h : validB ps = true) (hf : ∀ p ∈ ps, p.r < 2 ^ 64 ∧ -9223372036854775808 ≤ p.n ∧ p.n ≤ 9223372036854775807) (more : List UInt8) : tableP (bs (putB ps ++ more)) = some (ps, bs more) := by
  have hs := props_small h
  unfold tableP putB
  rw [List.append_assoc, longP_app _ _ (by omega), Option.bind_some]
  dsimp only
  rw [itemsP_app ps (fit_of h hf), Option.bind_some, tabP_valid h]
  rfl
/-- Nothing shorter is a table. -/
theorem tableP_short {ps : List Prp} (h : validB ps = true) {k : Nat} (hk : k < (putB ps).length) : tableP (bs ((putB ps).take k)) = none := by
  have hs := props_small h
  have hl : longP (bs ((putB ps).take k)) = none := by
    unfold longP
    by_cases h4 : k < 4
    · rw [numP_short (by rw [List.length_take]; omega)]
      rfl
    · have e : (putB ps).take k = beB (propsB ps).length 4 ++ (propsB ps).take (k - 4) := by
        unfold putB
        rw [List.take_append, List.take_of_length_le (by rw [beB_len]; omega), beB_len]
      rw [e, numP_app 4 _ (by show _ < 4294967296; omega), Option.bind_some]
      refine takeP_short ?_
      unfold putB at hk
      rw [List.length_append, beB_len] at hk
      rw [List.length_take]
      omega
  unfold tableP
  rw [hl]
  rfl
end Go.Proofs.YteigbejidfkhpaaDoor
