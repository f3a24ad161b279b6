/- Layer 18: the head of a frame: the walk. -/
import Derived.Test.YtfpdmgmolhddnaaDoorSfG
namespace Go.Proofs.YtfpdmgmolhddnaaDoor
open Go Go.RowKit Go.Sort
open Go.ChangeShapes Go.WideShapes Go.Deep
set_option linter.unusedSimpArgs false
set_option linter.unusedVariables false

theorem cell3 {w : World} {g : Nat} {cs : Array Value} {t : TypeId} {fr : Nat × Nat} (h : w.heap[g]? = some (.cells cs t fr)) (j : Nat) : w.cell? ⟨g, j, none⟩ = cs[j]? := by simp [World.cell?, h]
theorem cells3_1 {w : World} {g : Nat} {t : TypeId} {c0 c1 c2 : Value} {fr : Nat × Nat} (h : w.heap[g]? = some (.cells #[c0, c1, c2] t fr)) (b : Value) : (w.setCell ⟨g, 1, none⟩ b).heap[g]? = some (.cells #[c0, b, c2] t fr) := by
  simp [World.setCell, Array.getElem?_modify, h]
set_option maxRecDepth 100000 in
set_option maxHeartbeats 4000000 in
theorem head_c {w : World} (s : ByteArray) (hs : s.size ≤ 1073741824) (hg : GM w) :
    Calls Tryd.prog 15 #[.string s] w (HPost (headP s.data.toList) w) := by
  obtain ⟨HH, hHH⟩ : ∃ o, o = headP s.data.toList := ⟨_, rfl⟩
  rw [← hHH]
  obtain ⟨W, hW⟩ : ∃ W, W = w.alloc (.cells #[.string ⟨#[]⟩, .slice none 0 0, .string ⟨#[]⟩] 25) := ⟨_, rfl⟩
  have b0 : Below w.heap.size w W := by rw [hW]; exact (Below.refl _ _).alloc (Nat.le_refl _) _
  have r0 : W.heap[w.heap.size]? = some (.cells #[.string ⟨#[]⟩, .slice none 0 0, .string ⟨#[]⟩] 25 (0, 0)) := by rw [hW]; exact heap_alloc_new w _
  have hsz : W.heap.size = w.heap.size + 1 := by rw [hW]; simp
  have HP := Lib.hid hHH
  have HS := Lib.hid hs
  have HGM := Lib.hid (hg.below b0)
  have HB0 := Lib.hid b0
  have HR0 : Hid (∀ w1, Below W.heap.size W w1 → w1.heap[w.heap.size]? = some (.cells #[.string ⟨#[]⟩, .slice none 0 0, .string ⟨#[]⟩] 25 (0, 0))) := Lib.hid (fun w1 b => (b.block (w.heap.size) (by omega)).trans r0)
  have HSZ := Lib.hid hsz
  have HW := Lib.hid hW
  clear hHH hs hg b0 r0 hsz hW
  go_enter Tryd.func15, Tryd.ntmps15
  go_upto_region 1 with fail
  rw [← HW.out]
  go_wp2_with fail
  go_loopw [0, 5] (fun sv lv wr => ∃ (cur : ByteArray) (acc : List L8) (A : Option Addr) (c : Nat), sv = .string cur ∧ lv = .slice A acc.length c ∧ cur.size + acc.length ≤ s.size ∧ Hid (linesP s.data.toList = aheadL acc (linesP cur.data.toList)) ∧ Hid (OS wr W.heap.size (.slice A acc.length c) acc) ∧ Hid (∀ x ∈ acc, x.length ≤ 1073741824) ∧ Hid (Below W.heap.size W wr)) (fun sv _ _ => match sv with | .string b => b.size | _ => 0)
  case atStart => exact ⟨s, [], none, 0, rfl, rfl, by simp, Lib.hid (by cases linesP s.data.toList with | none => rfl | some p => rfl), Lib.hid (own_nil _ _ _ _), Lib.hid (fun x hx => by cases hx), Lib.hid (Below.refl _ _)⟩
  case round =>
    obtain ⟨cur, acc, A, c, rfl, rfl, hcur, HL, HO, HSZL, HB⟩ := hrel
    have HCUR := Lib.hid hcur
    have hcs : cur.size < 4294967281 := by have := HS.out; omega
    cases hct : cutP 10 cur.data.toList with
    | none =>
      have HLN := Lib.hid (line_no (w := wr) cur hcs (HGM.out.below HB.out) hct)
      obtain rfl : HH = some none := by rw [HP.out]; unfold headP; rw [HL.out, lines_none hct]; rfl
      have h0 := HR0.out wr HB.out
      clear hct hcs hcur
      go_wp2_with fail
      refine (HLN.out).mono ?_
      rintro e w2 ⟨rfl, b2⟩
      have B2 := Lib.hid (HB.out.trans (b2.mono HB.out.size))
      have h2 := HR0.out w2 B2.out
      have x0 : w2.cell? ⟨w.heap.size, 0, none⟩ = some (.string ⟨#[]⟩) := by simp only [World.cell?, h2]; rfl
      have x1 : w2.cell? ⟨w.heap.size, 1, none⟩ = some (.slice none 0 0) := by simp only [World.cell?, h2]; rfl
      have x2 : w2.cell? ⟨w.heap.size, 2, none⟩ = some (.string ⟨#[]⟩) := by simp only [World.cell?, h2]; rfl
      have fz : ∀ j, w2.frozen? ⟨w.heap.size, j, none⟩ = false := fun j => frozen_of_row _ _ j _ _ h2
      have H2 := Lib.hid h2
      clear b2 h2 h0
      go_wp2_with fail
      refine sf_end (w := w2) (g := w.heap.size) rfl _ _ _ H2.out rfl rfl ?_
      exact hpost_more (below3 (HB0.out.trans (B2.out.mono HB0.out.size)) (Nat.le_refl _) _ _ _)
    | some p =>
      obtain ⟨a, r⟩ := p
      have hlt := cut_lt hct
      obtain ⟨lb, hlb⟩ : ∃ lb : ByteArray, lb = ⟨(trimCR a).toArray⟩ := ⟨_, rfl⟩
      obtain ⟨rb, hrb⟩ : ∃ rb : ByteArray, rb = ⟨r.toArray⟩ := ⟨_, rfl⟩
      have hln := line_yes (w := wr) cur hcs (HGM.out.below HB.out) hct
      rw [← hlb, ← hrb] at hln
      have HLN := Lib.hid hln
      have hrs : rb.size < cur.size := by rw [hrb, str_sz, ← ba_size cur]; exact hlt
      have hrd : rb.data.toList = r := by rw [hrb, str_ls]
      have HRS := Lib.hid hrs
      have hls := lines_some hct
      by_cases hem : trimCR a = []
      · rw [if_pos hem] at hls
        have hle : lb.toList.isEmpty = true := by rw [ByteArray.toList_eq, hlb, hem]; rfl
        have hlsn : linesP s.data.toList = some (acc, r) := by rw [HL.out, hls]; show some (acc ++ [], r) = _; rw [List.append_nil]
        have HLS := Lib.hid hlsn
        have HRB := Lib.hid hrb
        clear hct hcs hcur hlt hln hrs hrd hls hlsn hem hlb hrb
        go_wp2_with fail
        refine (HLN.out).mono ?_
        rintro e w2 ⟨rfl, b2⟩
        have B2 := Lib.hid (HB.out.trans (b2.mono HB.out.size))
        have HO2 : Hid (OS w2 W.heap.size (.slice A acc.length c) acc) := Lib.hid (own_below HO.out b2)
        clear b2
        go_upto_region 8 with fail
        clear hle
        cases acc with
        | nil =>
          obtain rfl : HH = none := by rw [HP.out]; unfold headP; rw [HLS.out]
          go_wp2_with fail
          refine (unless_f _).mono ?_
          rintro e wq ⟨rfl, rfl⟩
          go_wp2_with fail
          exact ⟨rfl, hpost_stop (HB0.out.trans (B2.out.mono HB0.out.size))⟩
        | cons c1 ls =>
          obtain ⟨a0, rfl, q0⟩ := rs_cell (own_rc HO2.out) 0 c1 rfl
          obtain ⟨cb, hcb⟩ : ∃ cb : ByteArray, cb = ⟨c1.toArray⟩ := ⟨_, rfl⟩
          rw [← hcb] at q0
          have q0' : w2.cell? a0 = some (.string cb) := q0
          have hn1 : (1 : Int) ≤ (ls.length : Int) + 1 := by omega
          have hn0 : (0 : Int) < (ls.length : Int) + 1 := by omega
          have HLSL : Hid (ls.length ≤ 1073741824) := Lib.hid (by have := HCUR.out; have := HS.out; simp only [List.length_cons] at *; omega)
          by_cases h33 : (33 : Int) < (ls.length : Int) + 1
          · obtain rfl : HH = none := by rw [HP.out]; unfold headP; rw [HLS.out]; simp only; rw [if_neg (by omega)]
            clear hcb
            have hd : decide ((ls.length : Int) + 1 ≤ 33) = false := decide_eq_false (by omega)
            go_wp2_with fail
            refine (unless_f _).mono ?_
            rintro e wq ⟨rfl, rfl⟩
            go_wp2_with fail
            exact ⟨rfl, hpost_stop (HB0.out.trans (B2.out.mono HB0.out.size))⟩
          · have h33' : (ls.length : Int) + 1 ≤ 33 := by omega
            have hcsz : cb.size ≤ 140737488351232 := by rw [hcb, str_sz]; have := HSZL.out c1 (by simp); omega
            have hco := com_c (w := w2) cb hcsz
            have hcq : comB cb = commandP c1 := by rw [hcb]; exact com_eq c1
            rw [hcq] at hco
            have HCB := Lib.hid hcb
            clear hcb
            cases hcm : commandP c1 with
            | false =>
              rw [hcm] at hco
              have HCO := Lib.hid hco
              obtain rfl : HH = none := by rw [HP.out]; unfold headP; rw [HLS.out]; simp only; rw [if_neg (fun e => by rw [hcm] at e; cases e.2)]
              clear hco hcq hcsz h33 hcm
              go_wp2_with fail
              refine (HCO.out).mono ?_
              rintro e w3 ⟨rfl, b3⟩
              have B3 := Lib.hid (B2.out.trans (b3.mono B2.out.size))
              clear b3
              go_wp2_with fail
              refine (unless_f _).mono ?_
              rintro e wq ⟨rfl, rfl⟩
              go_wp2_with fail
              exact ⟨rfl, hpost_stop (HB0.out.trans (B3.out.mono HB0.out.size))⟩
            | true =>
              rw [hcm] at hco
              have HCO := Lib.hid hco
              have HHE : Hid (HH = match headersP (plainP c1) ls with | none => none | some hs => some (some (c1, hs, r))) := Lib.hid (by rw [HP.out]; unfold headP; rw [HLS.out]; simp only; rw [if_pos ⟨by omega, hcm⟩]; cases headersP (plainP c1) ls <;> rfl)
              clear hco hcq hcsz h33 hcm
              go_wp2_with fail
              refine (HCO.out).mono ?_
              rintro e w3 ⟨rfl, b3⟩
              have B3 := Lib.hid (B2.out.trans (b3.mono B2.out.size))
              have HO3 : Hid (OS w3 W.heap.size (.slice (some a0) (c1 :: ls).length c) (c1 :: ls)) := Lib.hid (own_below HO2.out b3)
              have p0 := cell_below b3 (World.block_lt_of_cell? w2 _ q0) q0
              have p0' : w3.cell? a0 = some (.string cb) := p0
              clear b3 q0 q0' HO2
              go_wp2_with fail
              refine (unless_t _).mono ?_
              rintro e wq ⟨rfl, rfl⟩
              go_upto_region 10 with fail
              clear p0 p0' h33' hn0
              obtain ⟨V9, hV9⟩ : ∃ V9, V9 = wq.alloc (.cells #[.string cb, .slice none 0 0, .string ⟨#[]⟩] 25) := ⟨_, rfl⟩
              rw [← hV9]
              have b9 : Below wq.heap.size wq V9 := by rw [hV9]; exact (Below.refl _ _).alloc (Nat.le_refl _) _
              have e9 : V9.heap[wq.heap.size]? = some (.cells #[.string cb, .slice none 0 0, .string ⟨#[]⟩] 25 (0, 0)) := by rw [hV9]; exact heap_alloc_new wq _
              obtain ⟨K9, hK9⟩ : ∃ K, K = wq.heap.size := ⟨_, rfl⟩
              have HK9 := Lib.hid hK9
              rw [← hK9] at e9 b9
              rw [← hK9]
              have HE9 := Lib.hid e9
              have hcap : ls.length + 1 ≤ c := by
                obtain ⟨A'', c'', he, h1, _⟩ := own_rc HO3.out
                injection he with e1 e2 e3
                subst e3
                simpa using h1
              obtain ⟨A2, hsl, hrt⟩ := rs_tail (A := some a0) c1 ls hcap
              have HT := Lib.hid (hrt wq (own_rc HO3.out))
              have hWK : W.heap.size ≤ K9 := by rw [hK9]; exact B3.out.size
              have HWK := Lib.hid hWK
              have HBV : Hid (Below W.heap.size W V9) := Lib.hid (B3.out.trans (below_lower b9 hWK))
              have HB9 : Hid (∀ {w1 : World}, Below K9 V9 w1 → Below W.heap.size W w1) := Lib.hid (fun b => HBV.out.trans (below_lower b HWK.out))
              have HBT : Hid (∀ {w1 : World}, Below K9 V9 w1 → Below wq.heap.size wq w1) := Lib.hid (fun b => by rw [← HK9.out]; exact b9.trans b)
              clear hV9 b9 e9 hK9 hcap hrt hWK HO3
              go_wp2_with fail
              clear hsl
              have HV0 : Hid (Below K9 V9 V9) := Lib.hid (Below.refl _ _)
              have HO0 : Hid (OH V9 (K9 + 1) (.slice none 0 0) []) := Lib.hid (own_nil _ _ _ _)
              go_loopw [11, 12, 13, 14, 53] (fun _ _ _ _ i wr => ∃ (k : Nat) (hacc : List (L8 × L8)) (A' : Option Addr) (c' : Nat), k ≤ ls.length ∧ i = .int .i64 k ∧ Hid (headersP (plainP c1) ls = aheadH hacc (headersP (plainP c1) (ls.drop k))) ∧ Hid (hacc.length ≤ k) ∧ Hid (wr.heap[K9]? = some (.cells #[.string cb, .slice A' hacc.length c', .string ⟨#[]⟩] 25 (0, 0))) ∧ Hid (OH wr (K9 + 1) (.slice A' hacc.length c') hacc) ∧ Hid (Below K9 V9 wr)) (fun _ _ _ _ i _ => ls.length - (intOf i).toNat)
              case atStart => exact ⟨0, [], none, 0, Nat.zero_le _, rfl, Lib.hid (by rw [List.drop_zero]; cases headersP (plainP c1) ls <;> rfl), Lib.hid (Nat.le_refl _), HE9, HO0, HV0⟩
              case round =>
                clear HE9 HV0 HO0
                obtain ⟨k, hacc, A', c', hk, rfl, HK, HA, HE, HO, HBK⟩ := hrel
                by_cases hlt : k < ls.length
                · obtain ⟨x, hx⟩ : ∃ x, ls[k]? = some x := ⟨_, List.getElem?_eq_getElem hlt⟩
                  obtain ⟨a, rfl, q0⟩ := rs_cell (rc_below HT.out (HBT.out HBK.out)) k x hx
                  obtain ⟨xb, hxb⟩ : ∃ xb : ByteArray, xb = ⟨x.toArray⟩ := ⟨_, rfl⟩
                  rw [← hxb] at q0
                  have hkI : (k : Int) < (ls.length : Int) := by omega
                  have HLT := Lib.hid hlt
                  have HWK1 := Lib.hid (wk1' k _ hlt (by have := HLSL.out; omega))
                  have hdr : ls.drop k = x :: ls.drop (k + 1) := by
                    obtain ⟨h1, h2⟩ := List.getElem?_eq_some_iff.1 hx
                    rw [← h2]; exact List.drop_eq_getElem_cons h1
                  have HK' : Hid (headersP (plainP c1) ls = aheadH hacc (headersP (plainP c1) (x :: ls.drop (k + 1)))) := Lib.hid (by rw [HK.out, hdr])
                  have hxs : xb.size ≤ 1073741824 := by rw [hxb, str_sz]; exact HSZL.out x (List.mem_cons_of_mem _ (List.mem_of_getElem? hx))
                  obtain ⟨m, hm⟩ := HGM.out.below (HB9.out HBK.out)
                  have hcu := Tryd.strings_Cut xb ⟨#[58]⟩ m wr (by omega) hm
                  rw [show (⟨#[58]⟩ : ByteArray).data.toList = [58] from rfl, show xb.data.toList = x by rw [hxb, str_ls]] at hcu
                  have HXB := Lib.hid hxb
                  clear hx hlt hk hdr HK hm hxb
                  have HKL : Hid (K9 < wr.heap.size) := Lib.hid (Array.getElem?_eq_some_iff.1 HE.out).1
                  have HEC : Hid (∀ w1, Below wr.heap.size wr w1 → w1.heap[K9]? = some (.cells #[.string cb, .slice A' hacc.length c', .string ⟨#[]⟩] 25 (0, 0))) := Lib.hid (fun w1 b => (b.block _ HKL.out).trans HE.out)
                  cases hct2 : cutP 58 x with
                  | none =>
                    rw [libcut_none hct2] at hcu
                    have HCU := Lib.hid hcu
                    obtain rfl : HH = none := by rw [HHE.out, HK'.out, headers_bad (by unfold headerP; rw [hct2])]
                    clear hcu hct2 hxs
                    go_wp2_with fail
                    refine (HCU.out).mono ?_
                    rintro e w4 ⟨rfl, n4, hw4⟩
                    have b4 : Below wr.heap.size wr w4 := by rw [hw4]; exact below_drewN _ _
                    have B4 := Lib.hid (HBK.out.trans (below_lower b4 (Nat.le_of_lt HKL.out)))
                    clear hw4 b4
                    go_wp2_with fail
                    refine (unless_f _).mono ?_
                    rintro e wq ⟨rfl, rfl⟩
                    go_wp2_with fail
                    exact ⟨rfl, hpost_stop (HB0.out.trans ((HB9.out (B4.out)).mono HB0.out.size))⟩
                  | some p =>
                    obtain ⟨nm, tx⟩ := p
                    rw [libcut_some hct2] at hcu
                    obtain ⟨nb, hnb⟩ : ∃ nb : ByteArray, nb = ⟨nm.toArray⟩ := ⟨_, rfl⟩
                    obtain ⟨tb, htb⟩ : ∃ tb : ByteArray, tb = ⟨tx.toArray⟩ := ⟨_, rfl⟩
                    simp only at hcu
                    rw [← hnb, ← htb] at hcu
                    have HCU := Lib.hid hcu
                    have hlen := congrArg List.length (cut_len hct2)
                    rw [List.length_append, List.length_cons] at hlen
                    have hxl : x.length ≤ 1073741824 := by rw [HXB.out, str_sz] at hxs; exact hxs
                    have HNS : Hid (nb.size ≤ 1073741824) := Lib.hid (by rw [hnb, str_sz]; omega)
                    have HTS : Hid (tb.size ≤ 1073741824) := Lib.hid (by rw [htb, str_sz]; omega)
                    have hhd : headerP (plainP c1) x = if nm = [] then none else if plainP c1 = true then some (nm, tx) else match unescP nm, unescP tx with | some n', some t' => some (n', t') | _, _ => none := by unfold headerP; rw [hct2]; rfl
                    have HHD := Lib.hid hhd
                    have HNB := Lib.hid hnb
                    have HTB := Lib.hid htb
                    clear hcu hct2 hxs hlen hxl hhd
                    by_cases hnn : nm = []
                    · have hee : nb.toList.isEmpty = true := by rw [ByteArray.toList_eq, hnb, hnn]; rfl
                      obtain rfl : HH = none := by rw [HHE.out, HK'.out, headers_bad (by rw [HHD.out, if_pos hnn])]
                      clear hnn hnb htb
                      go_wp2_with fail
                      refine (HCU.out).mono ?_
                      rintro e w4 ⟨rfl, n4, hw4⟩
                      have b4 : Below wr.heap.size wr w4 := by rw [hw4]; exact below_drewN _ _
                      have B4 := Lib.hid (HBK.out.trans (below_lower b4 (Nat.le_of_lt HKL.out)))
                      clear hw4 b4
                      go_wp2_with fail
                      refine (unless_f _).mono ?_
                      rintro e wq ⟨rfl, rfl⟩
                      go_wp2_with fail
                      exact ⟨rfl, hpost_stop (HB0.out.trans ((HB9.out (B4.out)).mono HB0.out.size))⟩
                    · have hee : nb.toList.isEmpty = false := by
                        rw [ByteArray.toList_eq, hnb]
                        cases hz : nm with
                        | nil => exact absurd hz hnn
                        | cons a b => rfl
                      rw [if_neg hnn] at HHD
                      clear hnn hnb htb
                      go_wp2_with fail
                      refine (HCU.out).mono ?_
                      rintro e w4 ⟨rfl, n4, hw4⟩
                      have b4 : Below wr.heap.size wr w4 := by rw [hw4]; exact below_drewN _ _
                      have HB4 := Lib.hid b4
                      have B4 := Lib.hid (HBK.out.trans (below_lower b4 (Nat.le_of_lt HKL.out)))
                      have he4 := HEC.out w4 b4
                      have y0 : w4.cell? ⟨K9, 0, none⟩ = some (.string cb) := by simp only [World.cell?, he4]; rfl
                      have hpc := plain_c (w := w4) cb
                      rw [show cb.data.toList = c1 by rw [HCB.out, str_ls]] at hpc
                      clear hw4 b4 he4 HCU
                      go_wp2_with fail
                      refine (unless_t _).mono ?_
                      rintro e wq ⟨rfl, rfl⟩
                      cases hpl : plainP c1 with
                      | true =>
                        rw [hpl] at hpc
                        have HPC := Lib.hid hpc
                        have HHD2 : Hid (headerP (plainP c1) x = some (nm, tx)) := Lib.hid (by rw [HHD.out, if_pos hpl])
                        clear hpc hpl hee HHD
                        go_wp2_with fail
                        refine (HPC.out).mono ?_
                        rintro e wz ⟨rfl, rfl⟩
                        clear HPC y0
                        have HK2 : Hid (headersP (plainP c1) ls = aheadH (hacc ++ [(nm, tx)]) (headersP (plainP c1) (ls.drop (k + 1)))) := Lib.hid (by rw [HK'.out, headers_step HHD2.out])
                        have HA2 : Hid ((hacc ++ [(nm, tx)]).length ≤ k + 1) := Lib.hid (by have := HA.out; simp; omega)
                        have HSO : Hid (RC (wz.alloc (.cells #[.string nb, .string tb] 32)) (.slice (some ⟨wz.heap.size, 0, none⟩) 1 1) 1 2 ([(nm, tx)].flatMap hdC)) := Lib.hid (by rw [HNB.out, HTB.out]; exact h_one wz (nm, tx))
                        have HO4 : Hid (OH wz (K9 + 1) (.slice A' hacc.length c') hacc) := Lib.hid (own_below HO.out HB4.out)
                        have he5 := HEC.out wz HB4.out
                        have y1 : wz.cell? ⟨K9, 1, none⟩ = some (.slice A' hacc.length c') := by simp only [World.cell?, he5]; rfl
                        have HE5 := Lib.hid he5
                        have HKW : Hid (K9 + 1 ≤ wz.heap.size) := Lib.hid (Array.getElem?_eq_some_iff.1 he5).1
                        clear he5
                        go_wp2_with (at_builtin; refine app_own (w0 := wz) (K9 + 1) 23 32 2 32 _ Tryd.underlying23 info_hd rfl (by decide) rfl (.tmp 78) (.tmp 82) rfl (.slice A' hacc.length c') _ hacc.length 1 (hacc.flatMap hdC) ([(nm, tx)].flatMap hdC) rfl rfl (own_below HO4.out ((Below.refl _ _).alloc (Nat.le_refl _) _)) HSO.out (hC_one _) ((Below.refl _ _).alloc HKW.out _) (by have := HA.out; have := HLT.out; have := HLSL.out; omega) (by have := HA.out; have := HLT.out; have := HLSL.out; omega) (Nat.le_trans HKW.out (by simp)) ?_; intro v5 w5 o5 b5 g5 _; have he6 : w5.heap[K9]? = some (.cells #[.string cb, .slice A' hacc.length c', .string ⟨#[]⟩] 25 (0, 0)) := (b5.block K9 (Nat.lt_succ_self _)).trans HE5.out; have HE6 := Lib.hid he6; have y1' : w5.cell? ⟨K9, 1, none⟩ = some (.slice A' hacc.length c') := (cell3 he6 1).trans rfl; have fz : w5.frozen? ⟨K9, 1, none⟩ = false := frozen_of_row _ _ 1 _ _ he6; have B5 := Lib.hid b5; obtain ⟨A5, c5, rfl⟩ := rc_any' (own_rc o5); have O5 := Lib.hid (oh_snoc o5); clear o5 b5 g5 he6)
                        have hl2 : (hacc ++ [(nm, tx)]).length = hacc.length + 1 := by simp
                        go_roundw
                        case rel => exact ⟨k + 1, hacc ++ [(nm, tx)], A5, c5, HLT.out, by first | rfl | (rw [HWK1.out]; rfl), HK2, HA2, Lib.hid (by rw [hl2]; exact cells3_1 HE6.out _), Lib.hid (by rw [hl2]; exact own_other O5.out (grownBy_set _ _ _ _) (fun j hj e => by injection e with e; have := own_base O5.out j hj; omega)), Lib.hid (((B4.out).trans (below_lower B5.out (Nat.le_succ _))).setCell (p := ⟨K9, 1, none⟩) (Nat.le_refl _) _)⟩
                        case measure => first | exact less1 HLT.out | (rw [HWK1.out]; exact less1 HLT.out)
                      | false =>
                        rw [hpl] at hpc
                        have HPC := Lib.hid hpc
                        rw [if_neg (by rw [hpl]; decide)] at HHD
                        have hu1 := fun w1 : World => unesc_c (w := w1) nb HNS.out
                        rw [show nb.data.toList = nm by rw [HNB.out, str_ls]] at hu1
                        have hu2 := fun w1 : World => unesc_c (w := w1) tb HTS.out
                        rw [show tb.data.toList = tx by rw [HTB.out, str_ls]] at hu2
                        have HU2 := Lib.hid hu2
                        clear hpc hpl hee hu2
                        cases hun : unescP nm with
                        | none =>
                          rw [hun] at hu1 HHD
                          have HU1 := Lib.hid hu1
                          obtain rfl : HH = none := by rw [HHE.out, HK'.out, headers_bad (by rw [HHD.out])]
                          clear hu1 hun
                          go_wp2_with fail
                          refine (HPC.out).mono ?_
                          rintro e wz ⟨rfl, rfl⟩
                          go_wp2_with fail
                          refine (HU1.out _).mono ?_
                          rintro e w6 ⟨rfl, b6⟩
                          go_wp2_with fail
                          exact ⟨rfl, hpost_stop (HB0.out.trans ((HB9.out (HBK.out.trans (below_lower (HB4.out.trans (b6.mono HB4.out.size)) (Nat.le_of_lt HKL.out)))).mono HB0.out.size))⟩
                        | some n' =>
                          rw [hun] at hu1 HHD
                          obtain ⟨nb', hnb'⟩ : ∃ nb' : ByteArray, nb' = ⟨n'.toArray⟩ := ⟨_, rfl⟩
                          have hu1' : ∀ w1 : World, Calls Tryd.prog 23 #[.string nb] w1 fun e w' => e = .returned (.string nb') ∧ Below w1.heap.size w1 w' := fun w1 => by rw [hnb']; exact (hu1 w1).mono fun e w' h => h
                          have HU1 := Lib.hid hu1'
                          have HNB' := Lib.hid hnb'
                          clear hu1 hun hu1' hnb'
                          cases hut : unescP tx with
                          | none =>
                            rw [hut] at HU2 HHD
                            obtain rfl : HH = none := by rw [HHE.out, HK'.out, headers_bad (by rw [HHD.out])]
                            clear hut
                            go_wp2_with fail
                            refine (HPC.out).mono ?_
                            rintro e wz ⟨rfl, rfl⟩
                            go_wp2_with fail
                            refine (HU1.out _).mono ?_
                            rintro e w6 ⟨rfl, b6⟩
                            have B6 := Lib.hid b6
                            clear b6
                            go_wp2_with fail
                            refine (HU2.out _).mono ?_
                            rintro e w7 ⟨rfl, b7⟩
                            go_wp2_with fail
                            exact ⟨rfl, hpost_stop (HB0.out.trans ((HB9.out (HBK.out.trans (below_lower (HB4.out.trans ((B6.out.trans (b7.mono B6.out.size)).mono HB4.out.size)) (Nat.le_of_lt HKL.out)))).mono HB0.out.size))⟩
                          | some t' =>
                            rw [hut] at HU2 HHD
                            obtain ⟨tb', htb'⟩ : ∃ tb' : ByteArray, tb' = ⟨t'.toArray⟩ := ⟨_, rfl⟩
                            have hu2' : ∀ w1 : World, Calls Tryd.prog 23 #[.string tb] w1 fun e w' => e = .returned (.string tb') ∧ Below w1.heap.size w1 w' := fun w1 => by rw [htb']; exact (HU2.out w1).mono fun e w' h => h
                            have HU3 := Lib.hid hu2'
                            have HTB' := Lib.hid htb'
                            have HHD2 : Hid (headerP (plainP c1) x = some (n', t')) := Lib.hid HHD.out
                            clear hut hu2' htb' HU2 HHD
                            go_wp2_with fail
                            refine (HPC.out).mono ?_
                            rintro e wz ⟨rfl, rfl⟩
                            clear y0 HPC
                            go_wp2_with fail
                            refine (HU1.out _).mono ?_
                            rintro e w6 ⟨rfl, b6⟩
                            have B6 := Lib.hid b6
                            clear b6 HU1
                            go_wp2_with fail
                            refine (HU3.out _).mono ?_
                            rintro e w7 ⟨rfl, b7⟩
                            have B7 := Lib.hid (HB4.out.trans ((B6.out.trans (b7.mono B6.out.size)).mono HB4.out.size))
                            have BK7 := Lib.hid (HBK.out.trans (below_lower B7.out (Nat.le_of_lt HKL.out)))
                            clear b7 B6 HU3
                            have HK2 : Hid (headersP (plainP c1) ls = aheadH (hacc ++ [(n', t')]) (headersP (plainP c1) (ls.drop (k + 1)))) := Lib.hid (by rw [HK'.out, headers_step HHD2.out])
                            have HA2 : Hid ((hacc ++ [(n', t')]).length ≤ k + 1) := Lib.hid (by have := HA.out; simp; omega)
                            have HSO : Hid (RC (w7.alloc (.cells #[.string nb', .string tb'] 32)) (.slice (some ⟨w7.heap.size, 0, none⟩) 1 1) 1 2 ([(n', t')].flatMap hdC)) := Lib.hid (by rw [HNB'.out, HTB'.out]; exact h_one w7 (n', t'))
                            have HO4 : Hid (OH w7 (K9 + 1) (.slice A' hacc.length c') hacc) := Lib.hid (own_below HO.out B7.out)
                            have he5 := HEC.out w7 B7.out
                            have y1 : w7.cell? ⟨K9, 1, none⟩ = some (.slice A' hacc.length c') := by simp only [World.cell?, he5]; rfl
                            have HE5 := Lib.hid he5
                            have HKW : Hid (K9 + 1 ≤ w7.heap.size) := Lib.hid (Array.getElem?_eq_some_iff.1 he5).1
                            clear he5
                            go_wp2_with (at_builtin; refine app_own (w0 := w7) (K9 + 1) 23 32 2 32 _ Tryd.underlying23 info_hd rfl (by decide) rfl (.tmp 78) (.tmp 82) rfl (.slice A' hacc.length c') _ hacc.length 1 (hacc.flatMap hdC) ([(n', t')].flatMap hdC) rfl rfl (own_below HO4.out ((Below.refl _ _).alloc (Nat.le_refl _) _)) HSO.out (hC_one _) ((Below.refl _ _).alloc HKW.out _) (by have := HA.out; have := HLT.out; have := HLSL.out; omega) (by have := HA.out; have := HLT.out; have := HLSL.out; omega) (Nat.le_trans HKW.out (by simp)) ?_; intro v5 w5 o5 b5 g5 _; have he6 : w5.heap[K9]? = some (.cells #[.string cb, .slice A' hacc.length c', .string ⟨#[]⟩] 25 (0, 0)) := (b5.block K9 (Nat.lt_succ_self _)).trans HE5.out; have HE6 := Lib.hid he6; have y1' : w5.cell? ⟨K9, 1, none⟩ = some (.slice A' hacc.length c') := (cell3 he6 1).trans rfl; have fz : w5.frozen? ⟨K9, 1, none⟩ = false := frozen_of_row _ _ 1 _ _ he6; have B5 := Lib.hid b5; obtain ⟨A5, c5, rfl⟩ := rc_any' (own_rc o5); have O5 := Lib.hid (oh_snoc o5); clear o5 b5 g5 he6)
                            have hl2 : (hacc ++ [(n', t')]).length = hacc.length + 1 := by simp
                            go_roundw
                            case rel => exact ⟨k + 1, hacc ++ [(n', t')], A5, c5, HLT.out, by first | rfl | (rw [HWK1.out]; rfl), HK2, HA2, Lib.hid (by rw [hl2]; exact cells3_1 HE6.out _), Lib.hid (by rw [hl2]; exact own_other O5.out (grownBy_set _ _ _ _) (fun j hj e => by injection e with e; have := own_base O5.out j hj; omega)), Lib.hid (((BK7.out).trans (below_lower B5.out (Nat.le_succ _))).setCell (p := ⟨K9, 1, none⟩) (Nat.le_refl _) _)⟩
                            case measure => first | exact less1 HLT.out | (rw [HWK1.out]; exact less1 HLT.out)
                · have hk2 : k = ls.length := by omega
                  subst hk2
                  obtain rfl : HH = some (some (c1, hacc, r)) := by
                    have h := HK.out
                    rw [List.drop_length] at h
                    rw [HHE.out, h]
                    show (match some (hacc ++ []) with | none => none | some hs => some (some (c1, hs, r))) = _
                    rw [List.append_nil]
                  have h0 := HR0.out wr (HB9.out HBK.out)
                  have he := HE.out
                  have x0 : wr.cell? ⟨w.heap.size, 0, none⟩ = some (.string ⟨#[]⟩) := by simp only [World.cell?, h0]; rfl
                  have x1 : wr.cell? ⟨w.heap.size, 1, none⟩ = some (.slice none 0 0) := by simp only [World.cell?, h0]; rfl
                  have x2 : wr.cell? ⟨w.heap.size, 2, none⟩ = some (.string ⟨#[]⟩) := by simp only [World.cell?, h0]; rfl
                  have y0 : wr.cell? ⟨K9, 0, none⟩ = some (.string cb) := by simp only [World.cell?, he]; rfl
                  have y1 : wr.cell? ⟨K9, 1, none⟩ = some (.slice A' hacc.length c') := by simp only [World.cell?, he]; rfl
                  have y2 : wr.cell? ⟨K9, 2, none⟩ = some (.string ⟨#[]⟩) := by simp only [World.cell?, he]; rfl
                  have fz : ∀ j, wr.frozen? ⟨w.heap.size, j, none⟩ = false := fun j => frozen_of_row _ _ j _ _ h0
                  have H0 := Lib.hid h0
                  have n1 : ¬ w.heap.size = K9 := by have := HWK.out; have := HSZ.out; omega
                  have n2 : ¬ K9 = w.heap.size := by have := HWK.out; have := HSZ.out; omega
                  clear hlt hk HK h0 he
                  go_wp2_with fail
                  refine sf_end (w := wr) (g := w.heap.size) rfl _ _ _ H0.out rfl rfl ?_
                  rw [HCB.out, HRB.out]
                  exact hpost_some (below3 (HB0.out.trans ((HB9.out HBK.out).mono HB0.out.size)) (Nat.le_refl _) _ _ _) (own_lower (own_other HO.out (grown3 _ _ _ _ _) (fun j hj e => by injection e with e; have := own_base HO.out j hj; have := HWK.out; have := HSZ.out; omega)) (by have := HWK.out; have := HSZ.out; omega))
      · rw [if_neg hem] at hls
        have hle : lb.toList.isEmpty = false := by
          rw [ByteArray.toList_eq, hlb]
          cases ht : trimCR a with
          | nil => exact absurd ht hem
          | cons x y => rfl
        have HL2 : Hid (linesP s.data.toList = aheadL (acc ++ [trimCR a]) (linesP rb.data.toList)) := Lib.hid (by rw [HL.out, hls, hrd]; cases linesP r with | none => rfl | some p => simp [aheadL])
        have HLB := Lib.hid hlb
        have HSZ2 : Hid (∀ x ∈ acc ++ [trimCR a], x.length ≤ 1073741824) := Lib.hid (fun x hx => by
          rcases List.mem_append.1 hx with hx | hx
          · exact HSZL.out x hx
          · obtain rfl : x = trimCR a := by simpa using hx
            have h1 := trimCR_len a
            have h2 := congrArg List.length (cut_len hct)
            rw [List.length_append, ba_size] at h2
            have := HS.out
            omega)
        clear hct hcs hcur hlt hln hrs hrd hls hem hlb hrb
        go_wp2_with fail
        refine (HLN.out).mono ?_
        rintro e w2 ⟨rfl, b2⟩
        have B2 := Lib.hid (HB.out.trans (b2.mono HB.out.size))
        have HO2 : Hid (OS w2 W.heap.size (.slice A acc.length c) acc) := Lib.hid (own_below HO.out b2)
        have HSO : Hid (RC (w2.alloc (.cells #[.string lb] 9)) (.slice (some ⟨w2.heap.size, 0, none⟩) 1 1) 1 1 (sC [trimCR a])) := Lib.hid (by rw [HLB.out]; exact s_one w2 (trimCR a))
        clear b2
        go_wp2_with (at_builtin; refine app_own (w0 := W) W.heap.size 45 9 1 16 _ Tryd.underlying45 info_str rfl (by decide) rfl (.tmp 27) (.tmp 29) rfl _ _ acc.length 1 (sC acc) (sC [trimCR a]) rfl rfl (own_below HO2.out ((Below.refl _ _).alloc (Nat.le_refl _) _)) HSO.out (sC_one _) (B2.out.alloc B2.out.size _) (by have := HCUR.out; have := HS.out; omega) (by have := HCUR.out; have := HS.out; omega) (Nat.le_trans B2.out.size (by simp)) ?_; intro v5 w5 o5 b5 _ _; obtain ⟨A5, c5, rfl⟩ := rc_any' (own_rc o5); have O5 := Lib.hid (os_snoc o5); have B5 := Lib.hid b5; clear o5 b5)
        have hl2 : acc.length + 1 = (acc ++ [trimCR a]).length := by simp
        go_roundw
        case rel => exact ⟨rb, acc ++ [trimCR a], A5, c5, rfl, by rw [← hl2], by have := HCUR.out; have := HRS.out; simp; omega, HL2, Lib.hid (by rw [← hl2]; exact O5.out), HSZ2, B5⟩
        case measure => exact HRS.out
end Go.Proofs.YtfpdmgmolhddnaaDoor
