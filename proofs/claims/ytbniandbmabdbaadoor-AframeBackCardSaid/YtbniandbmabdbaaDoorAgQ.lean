/- Layer 16: rows of frames; what Next answers of a frame's bytes, and of a proper beginning. -/
import Derived.Test.YtbniandbmabdbaaDoorAgP
import Derived.Test.YtbniandbmabdbaaDoorOpen2
namespace Go.Proofs.YtbniandbmabdbaaDoor.Af
open Go Go.RowKit
open Go.ChangeShapes Go.WideShapes Go.Deep
set_option linter.unusedSimpArgs false
set_option linter.unusedVariables false

structure Fr where
  t : Int
  c : Int
  p : ByteArray
def Fr.cells (f : Fr) : List Value := [.int .i64 f.t, .int .i64 f.c, .string f.p]
def RF (w : World) (v : Value) (fs : List Fr) : Prop := RC w v fs.length 3 (fs.flatMap Fr.cells)

section
variable {H : Type} {enc : TypeId × Value → H} {W : World} {base : Nat} {v : Value} {d : DataW H} {ps : List MemPlace} {ts : List TypeId} {ds : List (DataW H)}
set_option maxRecDepth 100000 in
theorem open_frames (hv : Value.okWide Tryd.prog W .any base 32 v) (h : DataW.Trod enc Tryd.prog W 0 (fun _ => true) true 32 v d ps)
    (hsz : (DataW.weightsEach Tryd.prog ts ds).all (· ≤ reachBytes) = true) (j : Nat) (ht : ts[j]? = some 32) (hd : ds[j]? = some d) :
    ∃ xs : List Fr, RF W v xs ∧ xs.length ≤ 140737488351232 := by
  have hu : Tryd.prog.underlying 32 = some (.slice 23) := Tryd.underlying32
  obtain ⟨xs, h1, h2, h3⟩ := open_row Fr.cells (fun _ => True) 3 (by omega) (fun _ => rfl) hu (by kernel_rfl) (fun n cs y hy hl => by
    obtain ⟨y0, y1, y2, n', _, _, e0, e1, e2⟩ := trod_struct3 Tryd.underlying23 hy
    match cs, hl with
    | [c0, c1, c2], _ =>
      have k1 : Tryd.prog.cellsOf 3 = 1 := by kernel_rfl
      have k2 : Tryd.prog.cellsOf 9 = 1 := by kernel_rfl
      simp only [k1, k2, List.drop_zero, List.drop_succ_cons, List.take_succ_cons, List.take_zero] at e0 e1 e2
      obtain ⟨b, f0, _⟩ := DataW.trod_int Tryd.underlying3 e0
      obtain ⟨z, f1, _, hz⟩ := DataW.trod_int Tryd.underlying3 e1
      obtain ⟨s, f2, _⟩ := DataW.trod_string Tryd.underlying9 e2
      cases f0; cases f1; cases f2
      exact ⟨⟨b, z, s⟩, rfl, trivial⟩) hv h hsz j ht hd
  have hb : Tryd.prog.bytesOf 23 = 32 := by kernel_rfl
  rw [hb] at h3
  exact ⟨xs, h1, by omega⟩
end
theorem add_one_of (a : Addr) (i j : Nat) : a.add (i + (j + 1)) = ⟨(a.add i).block, (a.add i).off + (j + 1), none⟩ := by
  rw [← add_add]
  generalize a.add i = b
  unfold Addr.add
  simp
theorem frames_at {w : World} {v : Value} {fs : List Fr} (h : RF w v fs) : ∃ A c, v = .slice A fs.length c ∧ fs.length ≤ c ∧ ∀ k f, fs[k]? = some f → ∃ a, A = some a ∧ w.cell? (a.add (k * 3)) = some (.int .i64 f.t) ∧ w.cell? ⟨(a.add (k * 3)).block, (a.add (k * 3)).off + 1, none⟩ = some (.int .i64 f.c) ∧ w.cell? ⟨(a.add (k * 3)).block, (a.add (k * 3)).off + 2, none⟩ = some (.string f.p) := by
  obtain ⟨A, c, h1, h2, h3⟩ := row_at (f := Fr.cells) (by omega) (fun _ => rfl) h
  exact ⟨A, c, h1, h2, fun k x hx => by
    obtain ⟨a, ha, hc⟩ := h3 k x hx
    exact ⟨a, ha, hc 0 _ rfl, by rw [← add_one_of]; exact hc 1 _ rfl, by rw [← add_one_of]; exact hc 2 _ rfl⟩⟩
theorem ri_at {w : World} {v : Value} {ns : List Int} (h : RI w v ns) : ∃ A c, v = .slice A ns.length c ∧ ns.length ≤ c ∧ ∀ j y, ns[j]? = some y → ∃ a, A = some a ∧ w.cell? (a.add j) = some (.int .i64 y) := by
  obtain ⟨A, c, rfl, h1, h2, h3, h4, h5⟩ := h
  exact ⟨A, c, rfl, h1, fun j y hy => h5 j _ (by rw [List.getElem?_map, hy]; rfl)⟩

/-! ### the bytes of frames -/
def Fr.ok (f : Fr) : Bool := encOk f.t f.c f.p
def Fr.bytes (f : Fr) : List UInt8 := encB f.t.toNat f.c.toNat f.p.data.toList
def frsB (fs : List Fr) : List UInt8 := fs.flatMap Fr.bytes
theorem frsB_snoc (l : List Fr) (f : Fr) : frsB (l ++ [f]) = frsB l ++ f.bytes := by simp [frsB]
theorem frsB_cons (f : Fr) (l : List Fr) : frsB (f :: l) = f.bytes ++ frsB l := by simp [frsB]
theorem frsB_app (l m : List Fr) : frsB (l ++ m) = frsB l ++ frsB m := by simp [frsB]
theorem fr_len (f : Fr) : f.bytes.length = f.p.size + 8 := by
  have hsl : f.p.data.toList.length = f.p.size := by rw [Array.length_toList]; rfl
  unfold Fr.bytes encB
  simp only [List.length_append, beB_len, hsl, List.length_cons, List.length_nil]
  omega
theorem frsB_len (n : Nat) : ∀ (l : List Fr), (∀ f ∈ l, f.p.size ≤ n) → (frsB l).length ≤ l.length * (n + 8)
  | [], _ => by simp [frsB]
  | f :: r, h => by
    have h1 := h f (List.mem_cons_self ..)
    have h2 := frsB_len n r (fun g hg => h g (List.mem_cons_of_mem _ hg))
    rw [frsB_cons, List.length_append, fr_len, List.length_cons, Nat.succ_mul]
    omega
/-- Where the first k frames end. -/
def endsK (fs : List Fr) (k : Nat) : List Int := (List.range k).map fun j => ((frsB (fs.take (j + 1))).length : Int)
theorem endsK_len (fs : List Fr) (k : Nat) : (endsK fs k).length = k := by simp [endsK]
theorem endsK_succ (fs : List Fr) (k : Nat) : endsK fs (k + 1) = endsK fs k ++ [((frsB (fs.take (k + 1))).length : Int)] := by simp [endsK, List.range_succ]
theorem endsK_at (fs : List Fr) (n k : Nat) (h : k < n) : (endsK fs n)[k]? = some ((frsB (fs.take (k + 1))).length : Int) := by
  unfold endsK
  rw [List.getElem?_map, List.getElem?_range h]
  rfl

theorem dig_nat (n k : Nat) : (dig n k).toNat = n / 256 ^ k % 256 := by
  unfold dig
  rw [pow256]
  exact UInt8.toNat_ofNat' ..
theorem natB_beB (n : Nat) : ∀ k, natB (beB n k) = n % 256 ^ k
  | 0 => by simp [beB, natB, Nat.mod_one]
  | k + 1 => by
    rw [beB, natB_cons, beB_len, natB_beB n k, dig_nat, Nat.mod_pow_succ, Nat.add_comm, Nat.mul_comm]

/-! ### a text that begins with a frame's bytes -/
theorem lst_size (s : ByteArray) : s.size = s.data.toList.length := by rw [Array.length_toList]; rfl
theorem at_lst {s : ByteArray} {l : List UInt8} (h : s.data.toList = l) (k : Nat) : atB s k = (l[k]?).getD 0 := by rw [atB, h]
theorem kindB_nat {t : Int} (h : kindB t = true) : ∃ n : Nat, t = n ∧ n < 256 := by
  obtain ⟨h1, h2⟩ := kindB_pos h
  exact ⟨t.toNat, by omega, by omega⟩
theorem fr_parts {f : Fr} (h : f.ok = true) : kindB f.t = true ∧ 0 ≤ f.c ∧ f.c ≤ 65535 ∧ f.p.size ≤ 16384 := by
  unfold Fr.ok encOk at h
  simp only [Bool.and_eq_true, decide_eq_true_eq] at h
  exact ⟨h.1.1.1, h.1.1.2, h.1.2, h.2⟩
theorem mod_small {n m : Nat} (h : n < m) : n % m = n := Nat.mod_eq_of_lt h
theorem fr_list (f : Fr) : f.bytes = dig f.t.toNat 0 :: dig f.c.toNat 1 :: dig f.c.toNat 0 :: (beB f.p.size 4 ++ (f.p.data.toList ++ [206])) := by
  have hsl : f.p.data.toList.length = f.p.size := by rw [Array.length_toList]; rfl
  unfold Fr.bytes encB
  rw [hsl]
  simp [beB]
theorem nxE_of {s : ByteArray} (h0 : kindB (atB s 0).toNat = true) (h7 : 7 ≤ s.size) (h1 : lenB s ≤ 16384) (h2 : lenB s + 8 ≤ s.size) (h3 : atB s (7 + lenB s) = 206) : nxE s = 0 := by
  unfold nxE
  rw [if_neg (fun h => by rw [h0] at h; exact Bool.noConfusion h.2), if_neg (by omega), if_neg (by omega), if_neg (by omega), if_neg (fun h => h h3)]
theorem nxE_short {s : ByteArray} (h0 : 0 < s.size → kindB (atB s 0).toNat = true) (h : s.size < 7 ∨ lenB s ≤ 16384 ∧ s.size < lenB s + 8) : nxE s = 41 := by
  unfold nxE
  rw [if_neg (fun k => by rw [h0 k.1] at k; exact Bool.noConfusion k.2)]
  by_cases h7 : s.size < 7
  · rw [if_pos h7]
  · obtain ⟨h1, h2⟩ := h.resolve_left h7
    rw [if_neg h7, if_neg (by omega), if_pos h2]

/-- What the reader finds in a text l that begins with the first m bytes of a frame (7 at least). -/
theorem head_of {f : Fr} (hf : f.ok = true) {s : ByteArray} {m : Nat} (hm : 7 ≤ m) (hs : s.data.toList.take m = f.bytes.take m) :
    atB s 0 = dig f.t.toNat 0 ∧ chB s = f.c.toNat ∧ lenB s = f.p.size := by
  obtain ⟨_, hc0, hc1, hp⟩ := fr_parts hf
  have h7 : s.data.toList.take 7 = f.bytes.take 7 := by
    have := congrArg (List.take 7) hs
    rwa [List.take_take, List.take_take, Nat.min_eq_left hm] at this
  have hseg : ∀ a b, b ≤ 7 → seg s.data.toList a b = seg f.bytes a b := by
    intro a b hb
    have := congrArg (fun l => (l.drop a).take (b - a)) h7
    simp only [List.drop_take, List.take_take] at this
    rw [Nat.min_eq_left (by omega)] at this
    exact this
  refine ⟨?_, ?_, ?_⟩
  · have h1 : s.data.toList[0]? = f.bytes[0]? := by
      have := congrArg (·[0]?) h7
      simpa [List.getElem?_take] using this
    rw [atB, h1, fr_list]
    rfl
  · have : seg f.bytes 1 3 = beB f.c.toNat 2 := by rw [fr_list]; rfl
    unfold chB
    rw [ext_seg, hseg 1 3 (by omega), this, natB_beB]
    exact mod_small (by omega)
  · have : seg f.bytes 3 7 = beB f.p.size 4 := by rw [fr_list]; rfl
    unfold lenB
    rw [ext_seg, hseg 3 7 (by omega), this, natB_beB]
    exact mod_small (by omega)
theorem dig_kind {t : Int} (h : kindB t = true) : (((dig t.toNat 0).toNat : Nat) : Int) = t := by
  obtain ⟨n, rfl, hn⟩ := kindB_nat h
  rw [dig_nat]
  show (((n : Nat) / 256 ^ 0 % 256 : Nat) : Int) = n
  rw [Nat.pow_zero, Nat.div_one, mod_small hn]

/-- A frame's bytes, and others behind: the frame is read. -/
theorem nx_of {f : Fr} (hf : f.ok = true) {s : ByteArray} {more : List UInt8} (hs : s.data.toList = f.bytes ++ more) :
    nxA s = .tuple #[.agg #[.int .i64 f.t, .int .i64 f.c, .string f.p], .int .i64 (f.bytes.length : Nat), .int .i64 0] := by
  obtain ⟨hk, hc0, hc1, hp⟩ := fr_parts hf
  have hl := fr_len f
  have hsz : s.size = f.p.size + 8 + more.length := by rw [lst_size, hs, List.length_append, hl]
  obtain ⟨e1, e2, e3⟩ := head_of (m := f.p.size + 8) hf (by omega) (by rw [hs, List.take_append_of_le_length (by omega)])
  have e4 : seg s.data.toList 7 (7 + f.p.size) = f.p.data.toList := by
    have hsl : f.p.data.toList.length = f.p.size := by rw [Array.length_toList]; rfl
    rw [hs, fr_list]
    show (List.drop 4 ((beB f.p.size 4 ++ (f.p.data.toList ++ [206])) ++ more)).take (7 + f.p.size - 7) = _
    rw [Nat.add_sub_cancel_left, List.append_assoc, List.drop_left' (beB_len _ 4), List.append_assoc, ← hsl, List.take_left' rfl]
  have e5 : atB s (7 + f.p.size) = 206 := by
    have hsl : f.p.data.toList.length = f.p.size := by rw [Array.length_toList]; rfl
    rw [at_lst hs, fr_list]
    have : (dig f.t.toNat 0 :: dig f.c.toNat 1 :: dig f.c.toNat 0 :: (beB f.p.size 4 ++ (f.p.data.toList ++ [206])) ++ more) = (dig f.t.toNat 0 :: dig f.c.toNat 1 :: dig f.c.toNat 0 :: (beB f.p.size 4 ++ f.p.data.toList)) ++ (206 :: more) := by simp
    rw [this, List.getElem?_append_right (by simp [beB_len, hsl]; omega)]
    simp only [List.length_cons, List.length_append, beB_len, hsl]
    rw [show 7 + f.p.size - (4 + f.p.size + 1 + 1 + 1) = 0 by omega]
    rfl
  have h0 : nxE s = 0 := nxE_of (by rw [e1, dig_kind hk]; exact hk) (by omega) (by omega) (by omega) (by rw [e3]; exact e5)
  have e6 : s.extract 7 (7 + lenB s) = f.p := by
    apply ByteArray.ext
    apply Array.toList_inj.1
    rw [ext_seg, e3, e4]
  unfold nxA
  rw [if_pos h0, e6, e1, e2, e3, dig_kind hk, hl]
  show Value.tuple #[.agg #[.int .i64 f.t, .int .i64 ((f.c.toNat : Nat) : Int), .string f.p], _, _] = _
  rw [show ((f.c.toNat : Nat) : Int) = f.c by omega]

/-- A proper beginning: bytes are missing. -/
theorem nx_part {f : Fr} (hf : f.ok = true) {s : ByteArray} {m : Nat} (hm : m < f.bytes.length) (hs : s.data.toList = f.bytes.take m) :
    nxA s = .tuple #[.agg #[.int .i64 0, .int .i64 0, .string ByteArray.empty], .int .i64 0, .int .i64 41] := by
  obtain ⟨hk, hc0, hc1, hp⟩ := fr_parts hf
  have hl := fr_len f
  have hsz : s.size = m := by rw [lst_size, hs, List.length_take]; omega
  refine nxA_err (k := 41) ?_ (by decide)
  refine nxE_short (fun h => ?_) ?_
  · have : atB s 0 = dig f.t.toNat 0 := by
      rw [at_lst hs, List.getElem?_take_of_lt (by omega), fr_list]
      rfl
    rw [this, dig_kind hk]
    exact hk
  · by_cases h7 : m < 7
    · exact .inl (by omega)
    · obtain ⟨_, _, e3⟩ := head_of (m := m) hf (by omega) (by rw [hs, List.take_take, Nat.min_self])
      exact .inr ⟨by omega, by omega⟩
theorem nx_none {s : ByteArray} (hs : s.data.toList = []) :
    nxA s = .tuple #[.agg #[.int .i64 0, .int .i64 0, .string ByteArray.empty], .int .i64 0, .int .i64 41] := by
  have hsz : s.size = 0 := by rw [lst_size, hs]; rfl
  exact nxA_err (k := 41) (nxE_short (fun h => by omega) (.inl (by omega))) (by decide)

/-! ### two rows of a call's own -/
def Dis (x y : Value) : Prop := ∀ k, x.ownBlock = some k → y.ownBlock ≠ some k
theorem Dis.symm {x y : Value} (h : Dis x y) : Dis y x := fun k hk hx => h k hx hk
theorem dis_new {W : World} {base e s n : Nat} {x y v : Value} {ys : List Value} (h : Dis x y) (hy : W.ownsRow base e s y n ys) (hv : v.ownBlock = x.ownBlock ∨ v.ownBlock = some W.heap.size) : Dis v y := by
  intro k hk hyk
  rcases hv with e | e
  · rw [e] at hk
    exact h k hk hyk
  · rw [e] at hk
    injection hk with hk
    have := (hy.lt k hyk).2
    omega
theorem dis_nil (y : Value) : Dis (.slice none 0 0) y := fun k hk => by cases hk
theorem dis_own {w w1 : World} {x y : Value} (h : Dis x y) (hg : w.grownBy w1 x.ownBlock) {base e s n : Nat} {ys : List Value} (hy : w.ownsRow base e s y n ys) : w1.ownsRow base e s y n ys :=
  own_other hy hg (fun k hk hx => h k hx hk)

def OI (w : World) (base : Nat) (v : Value) (ns : List Int) : Prop := w.ownsRow base 3 1 v ns.length (ns.map (Value.int .i64))
theorem info_int : (Tryd.prog.info? 3).map (fun i => (i.zero, i.size, i.bytes)) = some (some (.int .i64 0), 1, 8) := by kernel_rfl
theorem ri_one (w : World) (x : Int) : RI (w.alloc (.cells #[.int .i64 x] 3)) (.slice (some ⟨w.heap.size, 0, none⟩) 1 1) [x] :=
  rc_new w 3 1 1 [.int .i64 x] rfl (by omega)
theorem app_i {ops : Array Oper} {rest : List Oper} {o : Oper} {a : Act} {Q : Exit → Act → World → Prop} {w0 W : World} {base : Nat} {l m : List Int} {v u : Value}
    (hgd : o.guard = none) (s x : Operand) (ho : o.op = .call { callee := .builtin .append, args := #[s, x], argTypes := #[33, 33] })
    (hs : a.eval s = v) (hx : a.eval x = u) (hown : OI W base v l) (hr : RI W u m) (hB : Below base w0 W) (hbase : base ≤ W.heap.size) (hb : l.length + m.length ≤ 17592186044416)
    (h : ∀ v1 w1, OI w1 base v1 (l ++ m) → Below base w0 w1 → W.grownBy w1 v.ownBlock → (v1.ownBlock = v.ownBlock ∨ v1.ownBlock = some W.heap.size) → wpList Tryd.prog ops Q rest (a.put o.dst v1) w1) :
    wpList Tryd.prog ops Q (o :: rest) a W :=
  app_own base 33 3 1 8 (.int .i64 0) Tryd.underlying33 info_int rfl (by decide) hgd s x ho v u _ _ _ _ hs hx hown hr (fun y hy => by obtain ⟨z, _, rfl⟩ := List.mem_map.1 hy; rfl) hB (by omega) (by omega) hbase
    (fun v1 w1 h1 h2 h3 h4 => h v1 w1 (by unfold OI; rw [List.length_append, List.map_append]; exact h1) h2 h3 h4)
end Go.Proofs.YtbniandbmabdbaaDoor.Af
