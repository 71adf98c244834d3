/- Lemmas on what the functions of the program and of the library compute: RC4, N16, N15, N17. The conditions stand at each. -/
import Derived.Test.YtjaknioojpgkiaaGreatDoorQ45
import Derived.Test.YtjaknioojpgkiaaGreatDoorQ47
import Derived.Test.YtjaknioojpgkiaaGreatDoorQ32
import Derived.Laws.DeepStrings4
import Derived.Test.YtjaknioojpgkiaaGreatDoorQ40
import Derived.Test.YtjaknioojpgkiaaGreatDoorQ13
import Derived.Test.YtjaknioojpgkiaaGreatDoorQ41
import Derived.Test.YtjaknioojpgkiaaGreatDoorQ20
import Derived.Test.YtjaknioojpgkiaaGreatDoorQ21
/- The reference's Decimal, walked. The condition: the number is not negative, and has at most 20 digits. -/
namespace Go.Proofs.YtjaknioojpgkiaaGreatDoor
open Go.RowKit

theorem itoaB_small (n : Nat) (h : n < 10) : itoaB (n : Int) = ⟨#[UInt8.ofNat (48 + n)]⟩ := by
  unfold itoaB
  rw [Lib.itoa_nonneg, Lib.decDigits_one h]
theorem itoaB_big (n : Nat) (h : ¬ n < 10) : itoaB (n : Int) = itoaB ((n / 10 : Nat) : Int) ++ itoaB ((n % 10 : Nat) : Int) := by
  unfold itoaB
  rw [Lib.itoa_nonneg, Lib.itoa_nonneg, Lib.itoa_nonneg, Lib.decDigits_one (Nat.mod_lt n (by omega)), Lib.decDigits, dif_neg h]
  apply ByteArray.ext
  simp
theorem itoaB_len (n : Nat) (h : n ≤ 1000000000000) : (itoaB (n : Int)).size ≤ 21 := by
  have := Lib.itoa_length_le (n : Int) (by omega) (by omega)
  simpa [itoaB, ByteArray.size] using this
theorem conv_digit (n : Nat) (h : n < 10) (w : World) : (convert 106 9 (.slice (some ⟨w.heap.size, 0, none⟩) 1 1)).run Tryz.prog (w.alloc (.cells #[.int .u8 (48 + (n : Int))] 5)) = .ok (.string ⟨#[UInt8.ofNat (48 + n)]⟩) (w.alloc (.cells #[.int .u8 (48 + (n : Int))] 5)) := by
  have hb : ((UInt8.ofNat (48 + n)).toNat : Int) = 48 + (n : Int) := by
    rw [UInt8.toNat_ofNat', Nat.mod_eq_of_lt (by omega)]
    omega
  refine run_convert_bytes_back _ 106 9 5 ⟨w.heap.size, 0, none⟩ 1 [UInt8.ofNat (48 + n)] Tryz.underlying106 Tryz.underlying5 Tryz.underlying9 (fun j hj => ?_)
  obtain rfl : j = 0 := by simpa using hj
  rw [List.getElem_cons_zero, hb, add_lit, Nat.zero_add]
  simp
set_option maxHeartbeats 4000000 in
set_option maxRecDepth 100000 in
theorem refDigit (n : Nat) (h : n < 10) (w : World) : Calls Tryz.prog 82 #[.int .i64 (n : Int)] w fun e w' => e = .returned (.string (itoaB (n : Int))) ∧ Grew w w' := by
  rw [itoaB_small n h]
  have hz : (n : Int) < 10 := by omega
  have h0 : (0 : Int) ≤ (n : Int) := by omega
  have hc := conv_digit n h w
  generalize UInt8.ofNat (48 + n) = cc at hc ⊢
  go_enter Tryz.func82, Tryz.ntmps82
  go_wp2
  go_ret
  exact ⟨rfl, (Grew.refl w).alloc _⟩
set_option maxHeartbeats 4000000 in
set_option maxRecDepth 100000 in
theorem refDecimal_nat : ∀ (N : Nat) (n : Int), 0 ≤ n → n ≤ (N : Int) → n ≤ 1000000000000 → ∀ w : World, Calls Tryz.prog 82 #[.int .i64 n] w fun e w' => e = .returned (.string (itoaB n)) ∧ Grew w w' := by
  intro N
  induction N with
  | zero =>
    intro n h0 h1 h2 w
    obtain rfl : n = ((0 : Nat) : Int) := by omega
    exact refDigit 0 (by omega) w
  | succ N ih =>
    intro n h0 h1 h2 w
    obtain ⟨m, rfl⟩ : ∃ m : Nat, n = (m : Int) := ⟨n.toNat, by omega⟩
    by_cases h : m < 10
    · exact refDigit m h w
    · have hb := itoaB_big m h
      have e1 : ((m / 10 : Nat) : Int) = (m : Int) / 10 := by omega
      have e2 : ((m % 10 : Nat) : Int) = (m : Int) % 10 := by omega
      have z1 := itoaB_len (m / 10) (by omega)
      have z2 := itoaB_len (m % 10) (by omega)
      have k2 := fun w => refDigit (m % 10) (Nat.mod_lt m (by omega)) w
      rw [e1, e2] at hb
      rw [e1] at z1
      rw [e2] at z2 k2
      have K1 := Lib.hid (ih ((m : Int) / 10) (by omega) (by omega) (by omega))
      have K2 := Lib.hid k2
      have hz : ¬ (m : Int) < 10 := by omega
      clear ih e1 e2 k2
      rw [hb]
      clear hb
      generalize (m : Int) = n at *
      generalize itoaB (n / 10) = sa at *
      generalize itoaB (n % 10) = sb at *
      have hr := fun W => run_string_add (P := Tryz.prog) W sa sb (by omega) (by omega)
      clear z1 z2
      go_enter Tryz.func82, Tryz.ntmps82
      go_wp2_with fail
      refine (K1.out _).mono ?_
      rintro e w1 ⟨rfl, g1⟩
      have G1 := Lib.hid g1
      clear g1
      dsimp only
      go_wp2_with fail
      refine (K2.out _).mono ?_
      rintro e w2 ⟨rfl, g2⟩
      have G2 := Lib.hid g2
      clear g2
      dsimp only
      go_wp2
      go_ret
      exact ⟨rfl, G1.out.trans G2.out⟩
theorem refDecimal (n : Int) (h0 : 0 ≤ n) (h1 : n ≤ 1000000000000) (w : World) : Calls Tryz.prog 82 #[.int .i64 n] w fun e w' => e = .returned (.string (itoaB n)) ∧ Grew w w' := refDecimal_nat n.toNat n h0 (by omega) h1 w
end Go.Proofs.YtjaknioojpgkiaaGreatDoor

/- The reference's Print of layer 29, walked. The condition: the lists are short. -/
namespace Go.Proofs.YtjaknioojpgkiaaGreatDoor
open Go.RowKit

theorem add_run {a b : ByteArray} (h : a.size + b.size ≤ 1000000) : ∀ W : World, (Op.stringOp .add a b).run Tryz.prog W = .ok (.string (a ++ b)) W := fun W => run_string_add_sum W a b (by omega)
theorem data_len (s : ByteArray) : s.data.toList.length = s.size := rfl
theorem ex_one (s : ByteArray) {k : Nat} (h : k < s.size) : s.extract k (k + 1) = ⟨#[s[k]]⟩ := by
  have hl : k < s.data.size := h
  apply ByteArray.ext
  rw [ByteArray.data_extract]
  apply Array.ext
  · simp; omega
  · intro i h1 h2
    have hi : i = 0 := by simp at h2; omega
    subst hi
    simp
    rfl
theorem nl_take (s : ByteArray) {k : Nat} (h : k < s.size) : (s.data.toList.take (k + 1)).flatMap nlB = (s.data.toList.take k).flatMap nlB ++ nlB s[k] := by
  have hl : k < s.data.toList.length := h
  rw [List.take_succ_eq_append_getElem hl, List.flatMap_append]
  simp
  rfl
set_option maxHeartbeats 8000000 in
set_option maxRecDepth 100000 in
theorem refPrint29 (t : Tr) (ls : List ByteArray) (vs : List Val) (u : Int) (wt : ByteArray) (rv bv lv vv : Value) (w : World) (hr : SlI w rv t.roots) (hv : SlBr w bv t.brs) (hf : FewBr t.brs) (hrl : t.roots.length ≤ 1000000) (hm : ∀ i (h : i < t.brs.length), t.brs[i].mark.size ≤ 9223372036854775807) (hl : SlS w lv ls) (hvv : SlV w vv vs) :
    Calls Tryz.prog 25 #[.agg #[rv, bv], lv, vv, .int .i64 u, .string wt] w fun e w' => e = .returned (.tuple #[.string (printR t ls vs u wt).1, .int .i64 (printR t ls vs u wt).2]) ∧ Grew w w' := by
  have kA := fun W (hW : Grew w W) => refAllX t ls vs u wt rv bv lv vv W (hr.mono hW) (hv.mono hW) hf hrl hm (hl.mono hW) (hvv.mono hW)
  have hsm := fun h => all_small (t := t) (ls := ls) (vs := vs) (u := u) (wt := wt) h
  unfold RetVL at kA
  unfold printR
  generalize allR t ls vs u wt = R at kA hsm ⊢
  obtain ⟨L, re⟩ := R
  dsimp only at kA hsm ⊢
  have KA := Lib.hid kA
  have HSM := Lib.hid hsm
  obtain ⟨Ar0, cr0, rfl, -⟩ := hr.open_
  obtain ⟨Ab0, cb0, rfl, -⟩ := hv.open_
  clear kA hsm hr hv hf hrl hm hl hvv
  have GA := Lib.hid ((Grew.refl w).alloc (.cells #[.slice Ar0 t.roots.length cr0, .slice Ab0 t.brs.length cb0] 25))
  generalize hRES : (if re = 0 then ((⟨(linesB L u wt).toArray⟩ : ByteArray), (0 : Int)) else (⟨#[]⟩, re)) = RES
  have HRES := Lib.hid hRES
  clear hRES
  go_enter Tryz.func25, Tryz.ntmps25
  go_wp2_with fail
  refine (KA.out _ GA.out).mono ?_
  rintro e w1 ⟨v1, rfl, ho, g1⟩
  obtain ⟨A1, c1, rfl⟩ := own_slice ho
  have HS1 := Lib.hid (show SlV w1 (.slice A1 L.length c1) L from Rd.of_own ho)
  have G1 := Lib.hid (GA.out.trans g1)
  clear ho g1 KA
  dsimp only
  by_cases hz : re = 0
  case neg =>
    have hzb : (re != 0) = true := by simpa using hz
    obtain rfl : RES = (⟨#[]⟩, re) := by have := HRES.out; rw [if_neg hz] at this; exact this.symm
    clear HRES HSM hz HS1
    go_wp2
    go_ret2
    exact ⟨rfl, G1.out⟩
  subst hz
  obtain ⟨hL8, hLs⟩ := HSM.out rfl
  have HRB := Lib.hid (show RES = (⟨(linesB L u wt).toArray⟩, 0) by have := HRES.out; rw [if_pos rfl] at this; exact this.symm)
  obtain ⟨A2, c2, hv2, hlc, hc, hcr⟩ := HS1.out.open_
  injection hv2 with q1 _ q3
  subst q1 q3
  unfold maxLen at hc
  have HR := Lib.hid hcr
  have HLS := Lib.hid hLs
  clear hcr hLs HSM HRES HS1
  go_wp2_with fail
  go_loopg [14, 15] L.length (fun gg s14 s15 wr => ∃ (k : Nat) (O : ByteArray), k ≤ L.length ∧ L.length - k ≤ gg ∧ s15 = .int .i64 (k : Int) ∧ s14 = .string O ∧ Aside (O.data.toList = linesB (L.take k) u wt) ∧ Aside (O.size ≤ 20000 * k) ∧ Aside (Grew w1 wr))
  case atStart => exact ⟨0, ⟨#[]⟩, by omega, by omega, rfl, rfl, (show Aside _ from (show (⟨#[]⟩ : ByteArray).data.toList = linesB (L.take 0) u wt by simp [linesB])), (show Aside _ from (show (⟨#[]⟩ : ByteArray).size ≤ 20000 * 0 by decide)), (show Aside _ from Grew.refl _)⟩
  case round =>
    obtain ⟨k, O, hk, hgk, rfl, rfl, HO, HN, GW⟩ := hrel
    have hOs : O.size ≤ 20000 * k := HN.out
    by_cases hlt : k < L.length
    · have hltz : (k : Int) < (L.length : Int) := by omega
      have h0z : (0 : Int) ≤ (k : Int) := by omega
      obtain ⟨bb, off, rfl, hbb, hcell⟩ := HR.out (by omega)
      have HCY := Lib.hid (fun W hW => hcell W hW k hlt)
      have hsuc := lines_succ L u wt hlt
      obtain ⟨s1, s2, s3, s4⟩ := HLS.out L[k] (List.getElem_mem hlt)
      have hwd := word_small L[k].elem
      have hln : (linesB (L.take (k + 1)) u wt).length ≤ 20000 * (k + 1) := by
        have hll := line_len L[k] u wt s1 s2 s3 s4
        have h1 : O.data.toList.length = O.size := rfl
        rw [hsuc, List.length_append, ← HO.out, h1]
        omega
      have hO2 : O.size ≤ 160000 := by omega
      clear hcell hbb
      generalize L[k] = y at HCY s1 s2 s3 s4 hwd hsuc
      obtain ⟨yu, ye, yl, yt⟩ := y
      unfold lineB at hsuc
      dsimp only at HCY s1 s2 s3 s4 hwd hsuc
      have KWD := Lib.hid (fun W => refWord_any ye W)
      have KDC := Lib.hid (fun W => refDecimal yu (by omega) (by omega) W)
      have hid : (itoaB yu).data.toList = Lib.itoa yu := by simp [itoaB]
      have hns : (itoaB yu).size ≤ 100 := by
        have h1 := Lib.itoa_length_le yu (by omega) (by omega)
        rw [← hid, data_len] at h1
        omega
      rw [← hid] at hsuc
      generalize (kindOf ye).word = wd at KWD hwd hsuc
      generalize itoaB yu = ns at KDC hns hsuc
      generalize hql : (yl.toList == wt.toList) = ql at hsuc
      obtain ⟨y0, y1, y2, y3⟩ := HCY.out _ GW.out
      have HLN := Lib.hid hln
      clear hid hln s3 s4
      have HSUC := Lib.hid hsuc
      clear hsuc
      have z2 := (show (⟨#[32, 40]⟩ : ByteArray).size = 2 from rfl)
      have z1 := (show (⟨#[41]⟩ : ByteArray).size = 1 from rfl)
      have z6 := (show (⟨#[32, 102, 114, 111, 109, 32]⟩ : ByteArray).size = 6 from rfl)
      have z58 := (show (⟨#[58, 32]⟩ : ByteArray).size = 2 from rfl)
      have z10 := (show (⟨#[10]⟩ : ByteArray).size = 1 from rfl)
      have z32 := (show (⟨#[32, 32]⟩ : ByteArray).size = 2 from rfl)
      have c0 := add_run (a := O) (b := wd) (by (try simp only [ByteArray.size_append]); omega)
      go_wp2_with fail
      refine (KWD.out _).mono ?_
      rintro e w2 ⟨rfl, g2⟩
      have G2 := Lib.hid (GW.out.trans g2)
      clear g2 KWD y0 y1 y2 y3
      obtain ⟨y0, y1, y2, y3⟩ := HCY.out _ G2.out
      dsimp only
      cases ql with
      | true =>
        replace HSUC := Lib.hid (by have h := HSUC.out; rw [if_pos rfl] at h; exact h)
        by_cases hu : yu = u
        · have hub : (yu != u) = false := by simpa using hu
          replace HSUC := Lib.hid (by have h := HSUC.out; rw [if_pos hu] at h; exact h)
          clear hu KDC
          have c4 := add_run (a := (O ++ wd)) (b := (⟨#[58, 32]⟩ : ByteArray)) (by (try simp only [ByteArray.size_append]); omega)
          go_wp2_with fail
          have HQ0 := Lib.hid (show ((O ++ wd) ++ (⟨#[58, 32]⟩ : ByteArray)).data.toList = ((O ++ wd) ++ (⟨#[58, 32]⟩ : ByteArray)).data.toList ++ (yt.data.toList.take 0).flatMap nlB by simp)
          have n4 : ((O ++ wd) ++ (⟨#[58, 32]⟩ : ByteArray)).size ≤ 165000 := by simp only [ByteArray.size_append]; omega
          have HE4 := Lib.hid (show ((O ++ wd) ++ (⟨#[58, 32]⟩ : ByteArray)).data.toList = linesB (L.take k) u wt ++ (wd.data.toList) ++ [58, 32] by simp only [str_data, HO.out, List.append_assoc] <;> rfl)
          skip
          generalize ((O ++ wd) ++ (⟨#[58, 32]⟩ : ByteArray)) = O4 at HQ0 n4 HE4 ⊢
          go_loopg [14, 16] yt.size (fun gg s14 s16 wr => ∃ (j : Nat) (Q : ByteArray), j ≤ yt.size ∧ yt.size - j ≤ gg ∧ s16 = .int .i64 (j : Int) ∧ s14 = .string Q ∧ Aside (Q.data.toList = O4.data.toList ++ (yt.data.toList.take j).flatMap nlB) ∧ Aside (Q.size ≤ 165000 + 3 * j) ∧ Aside (Grew w1 wr))
          case atStart => exact ⟨0, O4, by omega, by omega, rfl, rfl, (show Aside _ from HQ0.out), (show Aside _ from (show O4.size ≤ 165000 + 3 * 0 from n4)), (show Aside _ from G2.out)⟩
          case round =>
            obtain ⟨j, Q, hj, hgj, rfl, rfl, HQ, HM, GX⟩ := hrel
            have hQs : Q.size ≤ 165000 + 3 * j := HM.out
            clear y0 y1 y2 y3
            obtain ⟨y0, y1, y2, y3⟩ := HCY.out _ GX.out
            by_cases hjl : j < yt.size
            · have hjz : (j : Int) < (yt.size : Int) := by omega
              have h0j : (0 : Int) ≤ (j : Int) := by omega
              have hj1 : (j : Int) + 1 ≤ (yt.size : Int) := by omega
              have hjj : (j : Int) ≤ (j : Int) + 1 := by omega
              have hex := ex_one yt hjl
              have hnt := nl_take yt hjl
              have hsl : ∀ W : World, (Instr.slice 9 (.string yt) (some (.int .i64 (j : Int))) (some (.int .i64 ((j : Int) + 1))) none).run Tryz.prog W = .ok (.string ⟨#[yt[j]]⟩) W := fun W => by
                rw [run_slice_string_if W _ yt _ _ _ _ Tryz.underlying9, if_pos ⟨by omega, hj1⟩, if_pos ⟨h0j, hjj⟩, ← hex]
                rfl
              have HNT := Lib.hid hnt
              have zb : (⟨#[yt[j]]⟩ : ByteArray).size = 1 := rfl
              have hby : ((yt[j].toNat : Int) == 10) = decide (yt[j] = 10) := by
                rw [Bool.eq_iff_iff, decide_eq_true_iff, beq_iff_eq]
                constructor
                · intro h; exact UInt8.toNat_inj.1 (by have : (10 : UInt8).toNat = 10 := rfl; omega)
                · intro h; rw [h]; rfl
              clear hex hnt
              have d0 := add_run (a := Q) (b := (⟨#[yt[j]]⟩ : ByteArray)) (by (try simp only [ByteArray.size_append]); omega)
              have d1 := add_run (a := (Q ++ (⟨#[yt[j]]⟩ : ByteArray))) (b := (⟨#[32, 32]⟩ : ByteArray)) (by (try simp only [ByteArray.size_append]); omega)
              by_cases h10 : yt[j] = 10
              · have hb : ((yt[j].toNat : Int) == 10) = true := by rw [hby, decide_eq_true h10]
                have HST := Lib.hid (show ((Q ++ (⟨#[yt[j]]⟩ : ByteArray)) ++ (⟨#[32, 32]⟩ : ByteArray)).data.toList = O4.data.toList ++ (yt.data.toList.take (j + 1)).flatMap nlB by rw [str_data, str_data, HQ.out, HNT.out]; simp [nlB, h10])
                have HZ := Lib.hid (show ((Q ++ (⟨#[yt[j]]⟩ : ByteArray)) ++ (⟨#[32, 32]⟩ : ByteArray)).size ≤ 165000 + 3 * (j + 1) by simp only [ByteArray.size_append]; omega)
                clear hby h10
                go_wp2
                go_roundg (yt.size - (j + 1))
                case measure => omega
                case rel => exact ⟨j + 1, _, by omega, by omega, by go_num, rfl, (show Aside _ from HST.out), (show Aside _ from HZ.out), (show Aside _ from GX.out)⟩
              · have hb : ((yt[j].toNat : Int) == 10) = false := by rw [hby, decide_eq_false h10]
                have HST := Lib.hid (show (Q ++ (⟨#[yt[j]]⟩ : ByteArray)).data.toList = O4.data.toList ++ (yt.data.toList.take (j + 1)).flatMap nlB by rw [str_data, HQ.out, HNT.out]; simp [nlB, h10])
                have HZ := Lib.hid (show (Q ++ (⟨#[yt[j]]⟩ : ByteArray)).size ≤ 165000 + 3 * (j + 1) by simp only [ByteArray.size_append]; omega)
                clear hby h10
                go_wp2
                go_roundg (yt.size - (j + 1))
                case measure => omega
                case rel => exact ⟨j + 1, _, by omega, by omega, by go_num, rfl, (show Aside _ from HST.out), (show Aside _ from HZ.out), (show Aside _ from GX.out)⟩
            · have hjz : ¬ (j : Int) < (yt.size : Int) := by omega
              obtain rfl : j = yt.size := by omega
              have e0 := add_run (a := Q) (b := (⟨#[10]⟩ : ByteArray)) (by (try simp only [ByteArray.size_append]); omega)
              have HLAST := Lib.hid (show (Q ++ (⟨#[10]⟩ : ByteArray)).data.toList = linesB (L.take (k + 1)) u wt by
                have ht : yt.data.toList.take yt.size = yt.data.toList := List.take_of_length_le (by rw [data_len]; exact Nat.le_refl _)
                rw [str_data, HQ.out, ht, HE4.out, HSUC.out]
                simp [List.append_assoc])
              have HZL := Lib.hid (show (Q ++ (⟨#[10]⟩ : ByteArray)).size ≤ 20000 * (k + 1) by have h1 : (Q ++ (⟨#[10]⟩ : ByteArray)).data.toList.length = (Q ++ (⟨#[10]⟩ : ByteArray)).size := rfl; have h2 := HLN.out; rw [← HLAST.out, h1] at h2; exact h2)
              go_wp2
              go_roundg (L.length - (k + 1))
              case measure => omega
              case rel => exact ⟨k + 1, _, by omega, by omega, by go_num, rfl, (show Aside _ from HLAST.out), (show Aside _ from HZL.out), (show Aside _ from GX.out)⟩
        · have hub : (yu != u) = true := by simpa using hu
          replace HSUC := Lib.hid (by have h := HSUC.out; rw [if_neg hu] at h; exact h)
          clear hu
          have c2 := add_run (a := (⟨#[32, 102, 114, 111, 109, 32]⟩ : ByteArray)) (b := ns) (by (try simp only [ByteArray.size_append]); omega)
          have c3 := add_run (a := (O ++ wd)) (b := ((⟨#[32, 102, 114, 111, 109, 32]⟩ : ByteArray) ++ ns)) (by (try simp only [ByteArray.size_append]); omega)
          go_wp2_with fail
          refine (KDC.out _).mono ?_
          rintro e w3 ⟨rfl, g3⟩
          have G3 := Lib.hid (G2.out.trans g3)
          clear g3 KDC y0 y1 y2 y3
          obtain ⟨y0, y1, y2, y3⟩ := HCY.out _ G3.out
          dsimp only
          have c4 := add_run (a := ((O ++ wd) ++ ((⟨#[32, 102, 114, 111, 109, 32]⟩ : ByteArray) ++ ns))) (b := (⟨#[58, 32]⟩ : ByteArray)) (by (try simp only [ByteArray.size_append]); omega)
          go_wp2_with fail
          have HQ0 := Lib.hid (show (((O ++ wd) ++ ((⟨#[32, 102, 114, 111, 109, 32]⟩ : ByteArray) ++ ns)) ++ (⟨#[58, 32]⟩ : ByteArray)).data.toList = (((O ++ wd) ++ ((⟨#[32, 102, 114, 111, 109, 32]⟩ : ByteArray) ++ ns)) ++ (⟨#[58, 32]⟩ : ByteArray)).data.toList ++ (yt.data.toList.take 0).flatMap nlB by simp)
          have n4 : (((O ++ wd) ++ ((⟨#[32, 102, 114, 111, 109, 32]⟩ : ByteArray) ++ ns)) ++ (⟨#[58, 32]⟩ : ByteArray)).size ≤ 165000 := by simp only [ByteArray.size_append]; omega
          have HE4 := Lib.hid (show (((O ++ wd) ++ ((⟨#[32, 102, 114, 111, 109, 32]⟩ : ByteArray) ++ ns)) ++ (⟨#[58, 32]⟩ : ByteArray)).data.toList = linesB (L.take k) u wt ++ (wd.data.toList ++ ([32, 102, 114, 111, 109, 32] ++ ns.data.toList)) ++ [58, 32] by simp only [str_data, HO.out, List.append_assoc] <;> rfl)
          skip
          generalize (((O ++ wd) ++ ((⟨#[32, 102, 114, 111, 109, 32]⟩ : ByteArray) ++ ns)) ++ (⟨#[58, 32]⟩ : ByteArray)) = O4 at HQ0 n4 HE4 ⊢
          go_loopg [14, 16] yt.size (fun gg s14 s16 wr => ∃ (j : Nat) (Q : ByteArray), j ≤ yt.size ∧ yt.size - j ≤ gg ∧ s16 = .int .i64 (j : Int) ∧ s14 = .string Q ∧ Aside (Q.data.toList = O4.data.toList ++ (yt.data.toList.take j).flatMap nlB) ∧ Aside (Q.size ≤ 165000 + 3 * j) ∧ Aside (Grew w1 wr))
          case atStart => exact ⟨0, O4, by omega, by omega, rfl, rfl, (show Aside _ from HQ0.out), (show Aside _ from (show O4.size ≤ 165000 + 3 * 0 from n4)), (show Aside _ from G3.out)⟩
          case round =>
            obtain ⟨j, Q, hj, hgj, rfl, rfl, HQ, HM, GX⟩ := hrel
            have hQs : Q.size ≤ 165000 + 3 * j := HM.out
            clear y0 y1 y2 y3
            obtain ⟨y0, y1, y2, y3⟩ := HCY.out _ GX.out
            by_cases hjl : j < yt.size
            · have hjz : (j : Int) < (yt.size : Int) := by omega
              have h0j : (0 : Int) ≤ (j : Int) := by omega
              have hj1 : (j : Int) + 1 ≤ (yt.size : Int) := by omega
              have hjj : (j : Int) ≤ (j : Int) + 1 := by omega
              have hex := ex_one yt hjl
              have hnt := nl_take yt hjl
              have hsl : ∀ W : World, (Instr.slice 9 (.string yt) (some (.int .i64 (j : Int))) (some (.int .i64 ((j : Int) + 1))) none).run Tryz.prog W = .ok (.string ⟨#[yt[j]]⟩) W := fun W => by
                rw [run_slice_string_if W _ yt _ _ _ _ Tryz.underlying9, if_pos ⟨by omega, hj1⟩, if_pos ⟨h0j, hjj⟩, ← hex]
                rfl
              have HNT := Lib.hid hnt
              have zb : (⟨#[yt[j]]⟩ : ByteArray).size = 1 := rfl
              have hby : ((yt[j].toNat : Int) == 10) = decide (yt[j] = 10) := by
                rw [Bool.eq_iff_iff, decide_eq_true_iff, beq_iff_eq]
                constructor
                · intro h; exact UInt8.toNat_inj.1 (by have : (10 : UInt8).toNat = 10 := rfl; omega)
                · intro h; rw [h]; rfl
              clear hex hnt
              have d0 := add_run (a := Q) (b := (⟨#[yt[j]]⟩ : ByteArray)) (by (try simp only [ByteArray.size_append]); omega)
              have d1 := add_run (a := (Q ++ (⟨#[yt[j]]⟩ : ByteArray))) (b := (⟨#[32, 32]⟩ : ByteArray)) (by (try simp only [ByteArray.size_append]); omega)
              by_cases h10 : yt[j] = 10
              · have hb : ((yt[j].toNat : Int) == 10) = true := by rw [hby, decide_eq_true h10]
                have HST := Lib.hid (show ((Q ++ (⟨#[yt[j]]⟩ : ByteArray)) ++ (⟨#[32, 32]⟩ : ByteArray)).data.toList = O4.data.toList ++ (yt.data.toList.take (j + 1)).flatMap nlB by rw [str_data, str_data, HQ.out, HNT.out]; simp [nlB, h10])
                have HZ := Lib.hid (show ((Q ++ (⟨#[yt[j]]⟩ : ByteArray)) ++ (⟨#[32, 32]⟩ : ByteArray)).size ≤ 165000 + 3 * (j + 1) by simp only [ByteArray.size_append]; omega)
                clear hby h10
                go_wp2
                go_roundg (yt.size - (j + 1))
                case measure => omega
                case rel => exact ⟨j + 1, _, by omega, by omega, by go_num, rfl, (show Aside _ from HST.out), (show Aside _ from HZ.out), (show Aside _ from GX.out)⟩
              · have hb : ((yt[j].toNat : Int) == 10) = false := by rw [hby, decide_eq_false h10]
                have HST := Lib.hid (show (Q ++ (⟨#[yt[j]]⟩ : ByteArray)).data.toList = O4.data.toList ++ (yt.data.toList.take (j + 1)).flatMap nlB by rw [str_data, HQ.out, HNT.out]; simp [nlB, h10])
                have HZ := Lib.hid (show (Q ++ (⟨#[yt[j]]⟩ : ByteArray)).size ≤ 165000 + 3 * (j + 1) by simp only [ByteArray.size_append]; omega)
                clear hby h10
                go_wp2
                go_roundg (yt.size - (j + 1))
                case measure => omega
                case rel => exact ⟨j + 1, _, by omega, by omega, by go_num, rfl, (show Aside _ from HST.out), (show Aside _ from HZ.out), (show Aside _ from GX.out)⟩
            · have hjz : ¬ (j : Int) < (yt.size : Int) := by omega
              obtain rfl : j = yt.size := by omega
              have e0 := add_run (a := Q) (b := (⟨#[10]⟩ : ByteArray)) (by (try simp only [ByteArray.size_append]); omega)
              have HLAST := Lib.hid (show (Q ++ (⟨#[10]⟩ : ByteArray)).data.toList = linesB (L.take (k + 1)) u wt by
                have ht : yt.data.toList.take yt.size = yt.data.toList := List.take_of_length_le (by rw [data_len]; exact Nat.le_refl _)
                rw [str_data, HQ.out, ht, HE4.out, HSUC.out]
                simp [List.append_assoc])
              have HZL := Lib.hid (show (Q ++ (⟨#[10]⟩ : ByteArray)).size ≤ 20000 * (k + 1) by have h1 : (Q ++ (⟨#[10]⟩ : ByteArray)).data.toList.length = (Q ++ (⟨#[10]⟩ : ByteArray)).size := rfl; have h2 := HLN.out; rw [← HLAST.out, h1] at h2; exact h2)
              go_wp2
              go_roundg (L.length - (k + 1))
              case measure => omega
              case rel => exact ⟨k + 1, _, by omega, by omega, by go_num, rfl, (show Aside _ from HLAST.out), (show Aside _ from HZL.out), (show Aside _ from GX.out)⟩
      | false =>
        replace HSUC := Lib.hid (by have h := HSUC.out; rw [if_neg (by decide)] at h; exact h)
        have c1a := add_run (a := (⟨#[32, 40]⟩ : ByteArray)) (b := yl) (by (try simp only [ByteArray.size_append]); omega)
        have c1b := add_run (a := ((⟨#[32, 40]⟩ : ByteArray) ++ yl)) (b := (⟨#[41]⟩ : ByteArray)) (by (try simp only [ByteArray.size_append]); omega)
        have c1 := add_run (a := (O ++ wd)) (b := ((⟨#[32, 40]⟩ : ByteArray) ++ yl ++ (⟨#[41]⟩ : ByteArray))) (by (try simp only [ByteArray.size_append]); omega)
        by_cases hu : yu = u
        · have hub : (yu != u) = false := by simpa using hu
          replace HSUC := Lib.hid (by have h := HSUC.out; rw [if_pos hu] at h; exact h)
          clear hu KDC
          have c4 := add_run (a := ((O ++ wd) ++ ((⟨#[32, 40]⟩ : ByteArray) ++ yl ++ (⟨#[41]⟩ : ByteArray)))) (b := (⟨#[58, 32]⟩ : ByteArray)) (by (try simp only [ByteArray.size_append]); omega)
          go_wp2_with fail
          have HQ0 := Lib.hid (show (((O ++ wd) ++ ((⟨#[32, 40]⟩ : ByteArray) ++ yl ++ (⟨#[41]⟩ : ByteArray))) ++ (⟨#[58, 32]⟩ : ByteArray)).data.toList = (((O ++ wd) ++ ((⟨#[32, 40]⟩ : ByteArray) ++ yl ++ (⟨#[41]⟩ : ByteArray))) ++ (⟨#[58, 32]⟩ : ByteArray)).data.toList ++ (yt.data.toList.take 0).flatMap nlB by simp)
          have n4 : (((O ++ wd) ++ ((⟨#[32, 40]⟩ : ByteArray) ++ yl ++ (⟨#[41]⟩ : ByteArray))) ++ (⟨#[58, 32]⟩ : ByteArray)).size ≤ 165000 := by simp only [ByteArray.size_append]; omega
          have HE4 := Lib.hid (show (((O ++ wd) ++ ((⟨#[32, 40]⟩ : ByteArray) ++ yl ++ (⟨#[41]⟩ : ByteArray))) ++ (⟨#[58, 32]⟩ : ByteArray)).data.toList = linesB (L.take k) u wt ++ (wd.data.toList ++ ([32, 40] ++ yl.data.toList ++ [41])) ++ [58, 32] by simp only [str_data, HO.out, List.append_assoc] <;> rfl)
          skip
          generalize (((O ++ wd) ++ ((⟨#[32, 40]⟩ : ByteArray) ++ yl ++ (⟨#[41]⟩ : ByteArray))) ++ (⟨#[58, 32]⟩ : ByteArray)) = O4 at HQ0 n4 HE4 ⊢
          go_loopg [14, 16] yt.size (fun gg s14 s16 wr => ∃ (j : Nat) (Q : ByteArray), j ≤ yt.size ∧ yt.size - j ≤ gg ∧ s16 = .int .i64 (j : Int) ∧ s14 = .string Q ∧ Aside (Q.data.toList = O4.data.toList ++ (yt.data.toList.take j).flatMap nlB) ∧ Aside (Q.size ≤ 165000 + 3 * j) ∧ Aside (Grew w1 wr))
          case atStart => exact ⟨0, O4, by omega, by omega, rfl, rfl, (show Aside _ from HQ0.out), (show Aside _ from (show O4.size ≤ 165000 + 3 * 0 from n4)), (show Aside _ from G2.out)⟩
          case round =>
            obtain ⟨j, Q, hj, hgj, rfl, rfl, HQ, HM, GX⟩ := hrel
            have hQs : Q.size ≤ 165000 + 3 * j := HM.out
            clear y0 y1 y2 y3
            obtain ⟨y0, y1, y2, y3⟩ := HCY.out _ GX.out
            by_cases hjl : j < yt.size
            · have hjz : (j : Int) < (yt.size : Int) := by omega
              have h0j : (0 : Int) ≤ (j : Int) := by omega
              have hj1 : (j : Int) + 1 ≤ (yt.size : Int) := by omega
              have hjj : (j : Int) ≤ (j : Int) + 1 := by omega
              have hex := ex_one yt hjl
              have hnt := nl_take yt hjl
              have hsl : ∀ W : World, (Instr.slice 9 (.string yt) (some (.int .i64 (j : Int))) (some (.int .i64 ((j : Int) + 1))) none).run Tryz.prog W = .ok (.string ⟨#[yt[j]]⟩) W := fun W => by
                rw [run_slice_string_if W _ yt _ _ _ _ Tryz.underlying9, if_pos ⟨by omega, hj1⟩, if_pos ⟨h0j, hjj⟩, ← hex]
                rfl
              have HNT := Lib.hid hnt
              have zb : (⟨#[yt[j]]⟩ : ByteArray).size = 1 := rfl
              have hby : ((yt[j].toNat : Int) == 10) = decide (yt[j] = 10) := by
                rw [Bool.eq_iff_iff, decide_eq_true_iff, beq_iff_eq]
                constructor
                · intro h; exact UInt8.toNat_inj.1 (by have : (10 : UInt8).toNat = 10 := rfl; omega)
                · intro h; rw [h]; rfl
              clear hex hnt
              have d0 := add_run (a := Q) (b := (⟨#[yt[j]]⟩ : ByteArray)) (by (try simp only [ByteArray.size_append]); omega)
              have d1 := add_run (a := (Q ++ (⟨#[yt[j]]⟩ : ByteArray))) (b := (⟨#[32, 32]⟩ : ByteArray)) (by (try simp only [ByteArray.size_append]); omega)
              by_cases h10 : yt[j] = 10
              · have hb : ((yt[j].toNat : Int) == 10) = true := by rw [hby, decide_eq_true h10]
                have HST := Lib.hid (show ((Q ++ (⟨#[yt[j]]⟩ : ByteArray)) ++ (⟨#[32, 32]⟩ : ByteArray)).data.toList = O4.data.toList ++ (yt.data.toList.take (j + 1)).flatMap nlB by rw [str_data, str_data, HQ.out, HNT.out]; simp [nlB, h10])
                have HZ := Lib.hid (show ((Q ++ (⟨#[yt[j]]⟩ : ByteArray)) ++ (⟨#[32, 32]⟩ : ByteArray)).size ≤ 165000 + 3 * (j + 1) by simp only [ByteArray.size_append]; omega)
                clear hby h10
                go_wp2
                go_roundg (yt.size - (j + 1))
                case measure => omega
                case rel => exact ⟨j + 1, _, by omega, by omega, by go_num, rfl, (show Aside _ from HST.out), (show Aside _ from HZ.out), (show Aside _ from GX.out)⟩
              · have hb : ((yt[j].toNat : Int) == 10) = false := by rw [hby, decide_eq_false h10]
                have HST := Lib.hid (show (Q ++ (⟨#[yt[j]]⟩ : ByteArray)).data.toList = O4.data.toList ++ (yt.data.toList.take (j + 1)).flatMap nlB by rw [str_data, HQ.out, HNT.out]; simp [nlB, h10])
                have HZ := Lib.hid (show (Q ++ (⟨#[yt[j]]⟩ : ByteArray)).size ≤ 165000 + 3 * (j + 1) by simp only [ByteArray.size_append]; omega)
                clear hby h10
                go_wp2
                go_roundg (yt.size - (j + 1))
                case measure => omega
                case rel => exact ⟨j + 1, _, by omega, by omega, by go_num, rfl, (show Aside _ from HST.out), (show Aside _ from HZ.out), (show Aside _ from GX.out)⟩
            · have hjz : ¬ (j : Int) < (yt.size : Int) := by omega
              obtain rfl : j = yt.size := by omega
              have e0 := add_run (a := Q) (b := (⟨#[10]⟩ : ByteArray)) (by (try simp only [ByteArray.size_append]); omega)
              have HLAST := Lib.hid (show (Q ++ (⟨#[10]⟩ : ByteArray)).data.toList = linesB (L.take (k + 1)) u wt by
                have ht : yt.data.toList.take yt.size = yt.data.toList := List.take_of_length_le (by rw [data_len]; exact Nat.le_refl _)
                rw [str_data, HQ.out, ht, HE4.out, HSUC.out]
                simp [List.append_assoc])
              have HZL := Lib.hid (show (Q ++ (⟨#[10]⟩ : ByteArray)).size ≤ 20000 * (k + 1) by have h1 : (Q ++ (⟨#[10]⟩ : ByteArray)).data.toList.length = (Q ++ (⟨#[10]⟩ : ByteArray)).size := rfl; have h2 := HLN.out; rw [← HLAST.out, h1] at h2; exact h2)
              go_wp2
              go_roundg (L.length - (k + 1))
              case measure => omega
              case rel => exact ⟨k + 1, _, by omega, by omega, by go_num, rfl, (show Aside _ from HLAST.out), (show Aside _ from HZL.out), (show Aside _ from GX.out)⟩
        · have hub : (yu != u) = true := by simpa using hu
          replace HSUC := Lib.hid (by have h := HSUC.out; rw [if_neg hu] at h; exact h)
          clear hu
          have c2 := add_run (a := (⟨#[32, 102, 114, 111, 109, 32]⟩ : ByteArray)) (b := ns) (by (try simp only [ByteArray.size_append]); omega)
          have c3 := add_run (a := ((O ++ wd) ++ ((⟨#[32, 40]⟩ : ByteArray) ++ yl ++ (⟨#[41]⟩ : ByteArray)))) (b := ((⟨#[32, 102, 114, 111, 109, 32]⟩ : ByteArray) ++ ns)) (by (try simp only [ByteArray.size_append]); omega)
          go_wp2_with fail
          refine (KDC.out _).mono ?_
          rintro e w3 ⟨rfl, g3⟩
          have G3 := Lib.hid (G2.out.trans g3)
          clear g3 KDC y0 y1 y2 y3
          obtain ⟨y0, y1, y2, y3⟩ := HCY.out _ G3.out
          dsimp only
          have c4 := add_run (a := (((O ++ wd) ++ ((⟨#[32, 40]⟩ : ByteArray) ++ yl ++ (⟨#[41]⟩ : ByteArray))) ++ ((⟨#[32, 102, 114, 111, 109, 32]⟩ : ByteArray) ++ ns))) (b := (⟨#[58, 32]⟩ : ByteArray)) (by (try simp only [ByteArray.size_append]); omega)
          go_wp2_with fail
          have HQ0 := Lib.hid (show ((((O ++ wd) ++ ((⟨#[32, 40]⟩ : ByteArray) ++ yl ++ (⟨#[41]⟩ : ByteArray))) ++ ((⟨#[32, 102, 114, 111, 109, 32]⟩ : ByteArray) ++ ns)) ++ (⟨#[58, 32]⟩ : ByteArray)).data.toList = ((((O ++ wd) ++ ((⟨#[32, 40]⟩ : ByteArray) ++ yl ++ (⟨#[41]⟩ : ByteArray))) ++ ((⟨#[32, 102, 114, 111, 109, 32]⟩ : ByteArray) ++ ns)) ++ (⟨#[58, 32]⟩ : ByteArray)).data.toList ++ (yt.data.toList.take 0).flatMap nlB by simp)
          have n4 : ((((O ++ wd) ++ ((⟨#[32, 40]⟩ : ByteArray) ++ yl ++ (⟨#[41]⟩ : ByteArray))) ++ ((⟨#[32, 102, 114, 111, 109, 32]⟩ : ByteArray) ++ ns)) ++ (⟨#[58, 32]⟩ : ByteArray)).size ≤ 165000 := by simp only [ByteArray.size_append]; omega
          have HE4 := Lib.hid (show ((((O ++ wd) ++ ((⟨#[32, 40]⟩ : ByteArray) ++ yl ++ (⟨#[41]⟩ : ByteArray))) ++ ((⟨#[32, 102, 114, 111, 109, 32]⟩ : ByteArray) ++ ns)) ++ (⟨#[58, 32]⟩ : ByteArray)).data.toList = linesB (L.take k) u wt ++ (wd.data.toList ++ ([32, 40] ++ yl.data.toList ++ [41]) ++ ([32, 102, 114, 111, 109, 32] ++ ns.data.toList)) ++ [58, 32] by simp only [str_data, HO.out, List.append_assoc] <;> rfl)
          skip
          generalize ((((O ++ wd) ++ ((⟨#[32, 40]⟩ : ByteArray) ++ yl ++ (⟨#[41]⟩ : ByteArray))) ++ ((⟨#[32, 102, 114, 111, 109, 32]⟩ : ByteArray) ++ ns)) ++ (⟨#[58, 32]⟩ : ByteArray)) = O4 at HQ0 n4 HE4 ⊢
          go_loopg [14, 16] yt.size (fun gg s14 s16 wr => ∃ (j : Nat) (Q : ByteArray), j ≤ yt.size ∧ yt.size - j ≤ gg ∧ s16 = .int .i64 (j : Int) ∧ s14 = .string Q ∧ Aside (Q.data.toList = O4.data.toList ++ (yt.data.toList.take j).flatMap nlB) ∧ Aside (Q.size ≤ 165000 + 3 * j) ∧ Aside (Grew w1 wr))
          case atStart => exact ⟨0, O4, by omega, by omega, rfl, rfl, (show Aside _ from HQ0.out), (show Aside _ from (show O4.size ≤ 165000 + 3 * 0 from n4)), (show Aside _ from G3.out)⟩
          case round =>
            obtain ⟨j, Q, hj, hgj, rfl, rfl, HQ, HM, GX⟩ := hrel
            have hQs : Q.size ≤ 165000 + 3 * j := HM.out
            clear y0 y1 y2 y3
            obtain ⟨y0, y1, y2, y3⟩ := HCY.out _ GX.out
            by_cases hjl : j < yt.size
            · have hjz : (j : Int) < (yt.size : Int) := by omega
              have h0j : (0 : Int) ≤ (j : Int) := by omega
              have hj1 : (j : Int) + 1 ≤ (yt.size : Int) := by omega
              have hjj : (j : Int) ≤ (j : Int) + 1 := by omega
              have hex := ex_one yt hjl
              have hnt := nl_take yt hjl
              have hsl : ∀ W : World, (Instr.slice 9 (.string yt) (some (.int .i64 (j : Int))) (some (.int .i64 ((j : Int) + 1))) none).run Tryz.prog W = .ok (.string ⟨#[yt[j]]⟩) W := fun W => by
                rw [run_slice_string_if W _ yt _ _ _ _ Tryz.underlying9, if_pos ⟨by omega, hj1⟩, if_pos ⟨h0j, hjj⟩, ← hex]
                rfl
              have HNT := Lib.hid hnt
              have zb : (⟨#[yt[j]]⟩ : ByteArray).size = 1 := rfl
              have hby : ((yt[j].toNat : Int) == 10) = decide (yt[j] = 10) := by
                rw [Bool.eq_iff_iff, decide_eq_true_iff, beq_iff_eq]
                constructor
                · intro h; exact UInt8.toNat_inj.1 (by have : (10 : UInt8).toNat = 10 := rfl; omega)
                · intro h; rw [h]; rfl
              clear hex hnt
              have d0 := add_run (a := Q) (b := (⟨#[yt[j]]⟩ : ByteArray)) (by (try simp only [ByteArray.size_append]); omega)
              have d1 := add_run (a := (Q ++ (⟨#[yt[j]]⟩ : ByteArray))) (b := (⟨#[32, 32]⟩ : ByteArray)) (by (try simp only [ByteArray.size_append]); omega)
              by_cases h10 : yt[j] = 10
              · have hb : ((yt[j].toNat : Int) == 10) = true := by rw [hby, decide_eq_true h10]
                have HST := Lib.hid (show ((Q ++ (⟨#[yt[j]]⟩ : ByteArray)) ++ (⟨#[32, 32]⟩ : ByteArray)).data.toList = O4.data.toList ++ (yt.data.toList.take (j + 1)).flatMap nlB by rw [str_data, str_data, HQ.out, HNT.out]; simp [nlB, h10])
                have HZ := Lib.hid (show ((Q ++ (⟨#[yt[j]]⟩ : ByteArray)) ++ (⟨#[32, 32]⟩ : ByteArray)).size ≤ 165000 + 3 * (j + 1) by simp only [ByteArray.size_append]; omega)
                clear hby h10
                go_wp2
                go_roundg (yt.size - (j + 1))
                case measure => omega
                case rel => exact ⟨j + 1, _, by omega, by omega, by go_num, rfl, (show Aside _ from HST.out), (show Aside _ from HZ.out), (show Aside _ from GX.out)⟩
              · have hb : ((yt[j].toNat : Int) == 10) = false := by rw [hby, decide_eq_false h10]
                have HST := Lib.hid (show (Q ++ (⟨#[yt[j]]⟩ : ByteArray)).data.toList = O4.data.toList ++ (yt.data.toList.take (j + 1)).flatMap nlB by rw [str_data, HQ.out, HNT.out]; simp [nlB, h10])
                have HZ := Lib.hid (show (Q ++ (⟨#[yt[j]]⟩ : ByteArray)).size ≤ 165000 + 3 * (j + 1) by simp only [ByteArray.size_append]; omega)
                clear hby h10
                go_wp2
                go_roundg (yt.size - (j + 1))
                case measure => omega
                case rel => exact ⟨j + 1, _, by omega, by omega, by go_num, rfl, (show Aside _ from HST.out), (show Aside _ from HZ.out), (show Aside _ from GX.out)⟩
            · have hjz : ¬ (j : Int) < (yt.size : Int) := by omega
              obtain rfl : j = yt.size := by omega
              have e0 := add_run (a := Q) (b := (⟨#[10]⟩ : ByteArray)) (by (try simp only [ByteArray.size_append]); omega)
              have HLAST := Lib.hid (show (Q ++ (⟨#[10]⟩ : ByteArray)).data.toList = linesB (L.take (k + 1)) u wt by
                have ht : yt.data.toList.take yt.size = yt.data.toList := List.take_of_length_le (by rw [data_len]; exact Nat.le_refl _)
                rw [str_data, HQ.out, ht, HE4.out, HSUC.out]
                simp [List.append_assoc])
              have HZL := Lib.hid (show (Q ++ (⟨#[10]⟩ : ByteArray)).size ≤ 20000 * (k + 1) by have h1 : (Q ++ (⟨#[10]⟩ : ByteArray)).data.toList.length = (Q ++ (⟨#[10]⟩ : ByteArray)).size := rfl; have h2 := HLN.out; rw [← HLAST.out, h1] at h2; exact h2)
              go_wp2
              go_roundg (L.length - (k + 1))
              case measure => omega
              case rel => exact ⟨k + 1, _, by omega, by omega, by go_num, rfl, (show Aside _ from HLAST.out), (show Aside _ from HZL.out), (show Aside _ from GX.out)⟩
    · have hltz : ¬ (k : Int) < (L.length : Int) := by omega
      obtain rfl : k = L.length := by omega
      have hO3 : O = ⟨(linesB L u wt).toArray⟩ := by
        have h := HO.out
        rw [List.take_length] at h
        apply ByteArray.ext
        exact Array.toList_inj.1 (by rw [h])
      have HRE := Lib.hid (show RES = (O, 0) by rw [HRB.out, hO3])
      have HGE := Lib.hid (G1.out.trans GW.out)
      clear hO3 HRB
      go_wp2
      go_ret2
      refine ⟨?_, HGE.out⟩
      rw [HRE.out]
      rfl
end Go.Proofs.YtjaknioojpgkiaaGreatDoor

/- The reference's alike of layer 29, walked. No condition. -/
namespace Go.Proofs.YtjaknioojpgkiaaGreatDoor
open Go.RowKit

set_option maxHeartbeats 4000000 in
set_option maxRecDepth 100000 in
theorem refAlike (l m : List Val) (v u : Value) (w : World) (hv : SlV w v l) (hu : SlV w u m) :
    Calls Tryz.prog 77 #[v, u] w fun e w' => e = .returned (.bool (decide (l.map readT = m.map readT))) ∧ Grew w w' := by
  obtain ⟨A, c, rfl, hlc, hc, hr⟩ := hv.open_
  obtain ⟨A', c', rfl, hlc', hc', hr'⟩ := hu.open_
  unfold maxLen at hc hc'
  have HR := Lib.hid hr
  have HR' := Lib.hid hr'
  clear hr hr' hv hu
  by_cases hl : l.length = m.length
  case neg =>
    have hd : decide (l.map readT = m.map readT) = false := by rw [decide_eq_false_iff_not]; exact fun h => hl (by have := congrArg List.length h; simpa using this)
    rw [hd]
    have hne : ((l.length : Int) != (m.length : Int)) = true := by rw [bne_iff_ne]; omega
    clear hl hd
    go_enter Tryz.func77, Tryz.ntmps77
    go_wp2
    go_ret
    exact ⟨rfl, Grew.refl w⟩
  have hne : ((l.length : Int) != (m.length : Int)) = false := by rw [bne_eq_false_iff_eq]; omega
  generalize hD : decide (l.map readT = m.map readT) = D
  have HD := Lib.hid hD
  have HL := Lib.hid hl
  clear hD hl
  go_enter Tryz.func77, Tryz.ntmps77
  go_wp2
  go_loopg [5] l.length (fun gg s wr => ∃ kk : Nat, kk ≤ l.length ∧ l.length - kk ≤ gg ∧ s = .int .i64 (kk : Int) ∧ Aside (Grew w wr) ∧ Aside ((l.map readT).take kk = (m.map readT).take kk))
  case atStart => exact ⟨0, Nat.zero_le _, by omega, rfl, (show Aside _ from Grew.refl w), (show Aside _ from by show _ = _; simp)⟩
  case round =>
    obtain ⟨kk, hkk, hg, rfl, BW, M⟩ := hrel
    by_cases hlt : kk < l.length
    · have hlt2 : kk < m.length := by have := HL.out; omega
      have hltz : (kk : Int) < (l.length : Int) := by omega
      have hltz2 : (kk : Int) < (m.length : Int) := by omega
      have h0z : (0 : Int) ≤ (kk : Int) := by omega
      obtain ⟨b, off, rfl, hb, hcell⟩ := HR.out (by omega)
      obtain ⟨b', off', rfl, hb', hcell'⟩ := HR'.out (by omega)
      obtain ⟨c0, c1, c2, c3⟩ := hcell wr BW.out kk hlt
      obtain ⟨d0, d1, d2, d3⟩ := hcell' wr BW.out kk hlt2
      clear hcell hcell'
      have Hstep : RowKit.Hid (readT l[kk] = readT m[kk] → (l.map readT).take (kk + 1) = (m.map readT).take (kk + 1)) := fun h => by
        rw [List.take_succ_eq_append_getElem (by simpa using hlt), List.take_succ_eq_append_getElem (by simpa using hlt2), M.out, List.getElem_map, List.getElem_map, h]
      have Hbad : RowKit.Hid (readT l[kk] ≠ readT m[kk] → D = false) := fun h => by
        rw [← HD.out, decide_eq_false_iff_not]
        intro e
        have h1 : (l.map readT)[kk]'(by simpa using hlt) = (m.map readT)[kk]'(by simpa using hlt2) := by simp only [e]
        rw [List.getElem_map, List.getElem_map] at h1
        exact h h1
      generalize l[kk] = x at c0 c1 c2 c3 Hstep Hbad
      generalize m[kk] = y at d0 d1 d2 d3 Hstep Hbad
      obtain ⟨x0, x1, x2, x3⟩ := x
      obtain ⟨y0, y1, y2, y3⟩ := y
      dsimp only at c0 c1 c2 c3 d0 d1 d2 d3
      unfold readT at Hstep Hbad
      dsimp only at Hstep Hbad
      clear M
      by_cases h1 : x1 = y1
      case neg =>
        have h1' : (x1 != y1) = true := by simpa using h1
        have Hs := Lib.hid (Hbad.out (by simp [h1]))
        clear h1 Hstep Hbad
        go_wp2
        go_quiet (fail)
        go_wp2
        go_ret
        exact ⟨ret_bool Hs.out.symm, BW.out.drewN _⟩
      subst h1
      have h1' : (x1 != x1) = false := by simp
      cases h2 : (x2.toList == y2.toList) with
      | false =>
        have Hs := Lib.hid (Hbad.out (by intro e; rw [show x2 = y2 from by simpa using (congrArg (fun p => p.2.1) e)] at h2; simp at h2))
        clear Hstep Hbad
        go_wp2
        go_quiet (fail)
        go_wp2
        go_ret
        exact ⟨ret_bool Hs.out.symm, BW.out.drewN _⟩
      | true =>
        cases h3 : (x3.toList == y3.toList) with
        | false =>
          have Hs := Lib.hid (Hbad.out (by intro e; rw [show x3 = y3 from by simpa using (congrArg (fun p => p.2.2) e)] at h3; simp at h3))
          clear Hstep Hbad
          go_wp2
          go_quiet (fail)
          go_wp2
          go_ret
          exact ⟨ret_bool Hs.out.symm, BW.out.drewN _⟩
        | true =>
          have Hs := Lib.hid (Hstep.out (by rw [bytes_inj (beq_iff_eq.1 h2), bytes_inj (beq_iff_eq.1 h3)]))
          clear Hstep Hbad
          go_wp2
          go_quiet (fail)
          go_wp2
          go_roundg (l.length - (kk + 1))
          case measure => omega
          case rel => exact ⟨kk + 1, by omega, by omega, by go_num, (show Aside _ from BW.out.drewN _), (show Aside _ from Hs.out)⟩
    · have hltz : ¬ (kk : Int) < (l.length : Int) := by omega
      have Hs : RowKit.Hid (D = true) := by
        have h := M.out
        rw [List.take_of_length_le (by simp; omega), List.take_of_length_le (by have := HL.out; simp; omega)] at h
        show D = true
        rw [← HD.out, decide_eq_true_iff]
        exact h
      go_wp2
      go_ret
      exact ⟨ret_bool Hs.out.symm, BW.out⟩
end Go.Proofs.YtjaknioojpgkiaaGreatDoor

/- The reference's Differ of layer 29, walked. The condition: the lists are short. -/
namespace Go.Proofs.YtjaknioojpgkiaaGreatDoor
open Go.RowKit

/-- The units that differ, put in one by one. -/
def difW (D : Int → Bool) (L : List Br) (l : List Int) : List Int := L.foldl (fun acc b => if D b.id then insU b.id acc else acc) l
theorem insU_short (n : Int) : ∀ l : List Int, (insU n l).length ≤ l.length + 1
  | [] => by simp [insU]
  | x :: r => by
    have := insU_short n r
    unfold insU
    split
    · simp only [List.length_cons]; omega
    · split <;> simp only [List.length_cons] <;> omega
theorem difW_all (D : Int → Bool) : ∀ (L : List Br) (l : List Int), Asc l → Asc (difW D L l) ∧ (∀ x, x ∈ difW D L l ↔ x ∈ l ∨ ∃ b ∈ L, b.id = x ∧ D x = true) ∧ (difW D L l).length ≤ l.length + L.length
  | [], l, h => ⟨h, (fun x => by simp [difW]), by simp [difW]⟩
  | b :: r, l, h => by
    by_cases hd : D b.id = true
    · obtain ⟨h1, h2, h3⟩ := difW_all D r (insU b.id l) (asc_insU b.id l h)
      have e : difW D (b :: r) l = difW D r (insU b.id l) := by unfold difW; simp [hd]
      rw [e]
      refine ⟨h1, fun x => ?_, ?_⟩
      · rw [h2, mem_insU]
        constructor
        · rintro ((rfl | h) | ⟨c, hc, h⟩)
          · exact .inr ⟨b, List.mem_cons_self, rfl, hd⟩
          · exact .inl h
          · exact .inr ⟨c, List.mem_cons_of_mem _ hc, h⟩
        · rintro (h | ⟨c, hc, rfl, h⟩)
          · exact .inl (.inr h)
          · rcases List.mem_cons.1 hc with rfl | hc
            · exact .inl (.inl rfl)
            · exact .inr ⟨c, hc, rfl, h⟩
      · have := insU_short b.id l
        simp only [List.length_cons]
        omega
    · obtain ⟨h1, h2, h3⟩ := difW_all D r l h
      have e : difW D (b :: r) l = difW D r l := by unfold difW; simp [hd]
      rw [e]
      refine ⟨h1, fun x => ?_, by simp only [List.length_cons]; omega⟩
      rw [h2]
      constructor
      · rintro (h | ⟨c, hc, h⟩)
        · exact .inl h
        · exact .inr ⟨c, List.mem_cons_of_mem _ hc, h⟩
      · rintro (h | ⟨c, hc, rfl, h⟩)
        · exact .inl h
        · rcases List.mem_cons.1 hc with rfl | hc
          · exact absurd h hd
          · exact .inr ⟨c, hc, rfl, h⟩
theorem asc_nil : Asc [] := by simp [Asc]
theorem difW_take (D : Int → Bool) (L : List Br) {k : Nat} (h : k < L.length) : difW D (L.take (k + 1)) [] = if D L[k].id then insU L[k].id (difW D (L.take k) []) else difW D (L.take k) [] := by
  unfold difW
  rw [List.take_succ_eq_append_getElem h, List.foldl_append]
  rfl
theorem difW_len (D : Int → Bool) (L : List Br) (k : Nat) : (difW D (L.take k) []).length ≤ L.length := by
  have h := (difW_all D (L.take k) [] asc_nil).2.2
  rw [List.length_take] at h
  simp only [List.length_nil] at h
  omega
theorem difW_is (t u : Tr) (D : Int → Bool) : difW D (t.brs ++ u.brs) [] = (idsF t u).filter D := by
  obtain ⟨h1, h2, -⟩ := difW_all D (t.brs ++ u.brs) [] asc_nil
  refine asc_ext h1 (List.Pairwise.filter D (ids_ord t u)) fun x => ?_
  rw [h2, List.mem_filter, ids_mem]
  constructor
  · rintro (h | ⟨b, hb, rfl, h⟩)
    · cases h
    · rcases List.mem_append.1 hb with hb | hb
      · exact ⟨.inl ⟨b, hb, rfl⟩, h⟩
      · exact ⟨.inr ⟨b, hb, rfl⟩, h⟩
  · rintro ⟨⟨b, hb, rfl⟩ | ⟨b, hb, rfl⟩, h⟩
    · exact .inr ⟨b, List.mem_append.2 (.inl hb), rfl, h⟩
    · exact .inr ⟨b, List.mem_append.2 (.inr hb), rfl, h⟩
theorem all_ok {t : Tr} {ls : List ByteArray} {vs : List Val} {id : Int} {wt : ByteArray} (h : ofI t ls vs = 0) (hl : lanI wt = 0) : ((allR t ls vs id wt).2 == 0) = (brFind t.brs id).isSome := by
  have ha : askI t ls vs id 1 wt = hasI t id := by
    unfold askI
    rw [h, hl, numI_zero.2 (by decide +kernel)]
    by_cases hz : hasI t id = 0
    · rw [hz]; rfl
    · simp [orF, hz]
  have h2 : (allR t ls vs id wt).2 = hasI t id := by
    unfold allR
    rw [ha]
    split
    · rename_i h3; exact h3.symm
    · rfl
  rw [h2]
  unfold hasI
  cases (brFind t.brs id).isSome <;> rfl
theorem dif_ref {t u : Tr} {ls : List ByteArray} {bs es : List Val} {wt : ByteArray} (h1 : ofI t ls bs = 0) (h2 : ofI u ls es = 0) (h3 : lanI wt = 0) (id : Int) :
    difB t u ls bs es wt id = (((brFind t.brs id).isSome != (brFind u.brs id).isSome) || !decide ((allR t ls bs id wt).1.map readT = (allR u ls es id wt).1.map readT)) := by
  unfold difB
  rw [all_ok h1 h3, all_ok h2 h3]
  congr 2
  exact decide_eq_decide.2 (read_at id _ _)
/-- How the reference's Differ ends. -/
def RetDf (r : List Int × Int) (w : World) (e : Ending) (w' : World) : Prop := ∃ v, e = .returned (.tuple #[v, .int .i64 r.2]) ∧ SlI w' v r.1 ∧ Grew w w'
set_option maxHeartbeats 16000000 in
set_option maxRecDepth 100000 in
theorem refDiffer29 (t u : Tr) (ls : List ByteArray) (bs es : List Val) (wt : ByteArray) (rv bv ru bu lv vb va : Value) (w : World) (hr : SlI w rv t.roots) (hv : SlBr w bv t.brs) (hf : FewBr t.brs) (hrl : t.roots.length ≤ 1000000) (hm : ∀ i (h : i < t.brs.length), t.brs[i].mark.size ≤ 9223372036854775807) (hr2 : SlI w ru u.roots) (hv2 : SlBr w bu u.brs) (hf2 : FewBr u.brs) (hrl2 : u.roots.length ≤ 1000000) (hm2 : ∀ i (h : i < u.brs.length), u.brs[i].mark.size ≤ 9223372036854775807) (hl : SlS w lv ls) (hb : SlV w vb bs) (ha : SlV w va es) :
    Calls Tryz.prog 23 #[.agg #[rv, bv], .agg #[ru, bu], lv, vb, va, .string wt] w (RetDf (difR t u ls bs es wt) w) := by
  have KA := Lib.hid (fun W (hW : Grew w W) => refRightI t ls bs rv bv lv vb W (hr.mono hW) (hv.mono hW) hf hrl hm (hl.mono hW) (hb.mono hW))
  have KB := Lib.hid (fun W (hW : Grew w W) => refRightI u ls es ru bu lv va W (hr2.mono hW) (hv2.mono hW) hf2 hrl2 hm2 (hl.mono hW) (ha.mono hW))
  have KW := Lib.hid (fun W => isLanguage_any wt W)
  have KFA := Lib.hid (fun id W (hW : Grew w W) => refFind19 t.brs id rv bv W (hv.mono hW))
  have KFB := Lib.hid (fun id W (hW : Grew w W) => refFind19 u.brs id ru bu W (hv2.mono hW))
  have kRA := fun id W (hW : Grew w W) => refAllX t ls bs id wt rv bv lv vb W (hr.mono hW) (hv.mono hW) hf hrl hm (hl.mono hW) (hb.mono hW)
  have kRB := fun id W (hW : Grew w W) => refAllX u ls es id wt ru bu lv va W (hr2.mono hW) (hv2.mono hW) hf2 hrl2 hm2 (hl.mono hW) (ha.mono hW)
  unfold RetVL at kRA kRB
  have KRA := Lib.hid kRA
  have KRB := Lib.hid kRB
  have HZ := Lib.hid (fun (h1 : ofI t ls bs = 0) (h2 : ofI u ls es = 0) (h3 : lanI wt = 0) => dif_ref h1 h2 h3)
  have HLEN := Lib.hid (fun (h1 : ofI t ls bs = 0) (h2 : ofI u ls es = 0) => (⟨(right_sound (ofI_zero.1 h1).1).len, (right_sound (ofI_zero.1 h2).1).len⟩ : t.brs.length ≤ 256 ∧ u.brs.length ≤ 256))
  have HLW := Lib.hid (show lanI wt = if isLangF wt.data.toList = true then 0 else 3 from rfl)
  have HA2 := Lib.hid (ofI_two t ls bs)
  have HB2 := Lib.hid (ofI_two u ls es)
  generalize hRES : difR t u ls bs es wt = RES
  unfold difR at hRES
  obtain ⟨DB, hDB⟩ : ∃ DB : Int → Bool, DB = difB t u ls bs es wt := ⟨_, rfl⟩
  rw [← hDB] at HZ hRES
  rw [← difW_is] at hRES
  clear hDB
  generalize ofI t ls bs = N0 at KA HZ HLEN HA2 hRES
  generalize ofI u ls es = N1 at KB HZ HLEN HB2 hRES
  generalize lanI wt = NL at HZ HLW hRES
  generalize isLangF wt.data.toList = q at KW HLW
  have HRES := Lib.hid hRES
  clear hRES
  obtain ⟨i0, hi0, hz0, hz1, hz2⟩ := info_parts cinfoB
  obtain ⟨csa, hBa, hca, hoka⟩ := hv
  obtain ⟨csb, hBb, hcb, hokb⟩ := hv2
  have h1a : ∀ c ∈ csa, c.kv.oneCell' = true := fun c hc => (kv_cells hca hoka c hc).1
  have h1b : ∀ c ∈ csb, c.kv.oneCell' = true := fun c hc => (kv_cells hcb hokb c hc).1
  have HBA := Lib.hid (show ∀ W, Grew w W → Rd W 6 bv (csa.flatMap BrC.cells) from fun W hW => Rd.mono hBa hW)
  have HBB := Lib.hid (show ∀ W, Grew w W → Rd W 6 bu (csb.flatMap BrC.cells) from fun W hW => Rd.mono hBb hW)
  have hna := hf.1
  have hnb := hf2.1
  obtain ⟨Aa, ca, rfl, -⟩ := SlI.open_ hr
  obtain ⟨Ab, cb, rfl, -⟩ := SlI.open_ hr2
  obtain ⟨Ba, da, e1, -⟩ := SlB.open_ hBa
  obtain ⟨Bb, db, e2, -⟩ := SlB.open_ hBb
  subst e1 e2
  have HOA := Lib.hid hoka
  have HOB := Lib.hid hokb
  have HCA := Lib.hid hca
  have HCB := Lib.hid hcb
  have H1A := Lib.hid (one_cellsB csa h1a)
  have H1B := Lib.hid (one_cellsB csb h1b)
  have hlxa := flatMap_len BrC.cells 6 (fun _ => rfl) csa
  have hlxb := flatMap_len BrC.cells 6 (fun _ => rfl) csb
  rw [← hca] at hna
  rw [← hcb] at hnb
  clear hoka hokb hca hcb h1a h1b hBa hBb hr hr2 hf hf2 hrl hrl2 hm hm2 hl hb ha kRA kRB
  have hbx : ∀ W, Grew ((w.alloc (.cells [.slice Aa t.roots.length ca, .slice Ba csa.length da].toArray 25)).alloc (.cells [.slice Ab u.roots.length cb, .slice Bb csb.length db].toArray 25)) W → W.cell? ⟨w.heap.size, 0, none⟩ = some (.slice Aa t.roots.length ca) ∧ W.cell? ⟨w.heap.size, 1, none⟩ = some (.slice Ba csa.length da) ∧ W.cell? ⟨w.heap.size + 1, 0, none⟩ = some (.slice Ab u.roots.length cb) ∧ W.cell? ⟨w.heap.size + 1, 1, none⟩ = some (.slice Bb csb.length db) := fun W g => by
    have e : (w.alloc (.cells [.slice Aa t.roots.length ca, .slice Ba csa.length da].toArray 25)).heap.size = w.heap.size + 1 := by simp only [World.size_alloc]
    have h0 := new_cell g 0 _ rfl
    have h1 := new_cell g 1 _ rfl
    rw [e] at h0 h1
    have g1 : Grew (w.alloc (.cells [.slice Aa t.roots.length ca, .slice Ba csa.length da].toArray 25)) W := ((Grew.refl _).alloc _).trans g
    exact ⟨new_cell g1 0 _ rfl, new_cell g1 1 _ rfl, h0, h1⟩
  have HBC := Lib.hid hbx
  clear hbx
  have GA := Lib.hid (((Grew.refl w).alloc (.cells [.slice Aa t.roots.length ca, .slice Ba csa.length da].toArray 25)).alloc (.cells [.slice Ab u.roots.length cb, .slice Bb csb.length db].toArray 25))
  unfold RetDf
  go_enter Tryz.func23, Tryz.ntmps23
  go_wp2_with fail
  generalize (w.alloc (.cells [.slice Aa t.roots.length ca, .slice Ba csa.length da].toArray 25)).alloc (.cells [.slice Ab u.roots.length cb, .slice Bb csb.length db].toArray 25) = WA at GA HBC ⊢
  refine (KA.out _ GA.out).mono ?_
  rintro e w1 ⟨rfl, g1⟩
  have HG := Lib.hid g1
  obtain ⟨x0, x1, y0, y1⟩ := HBC.out w1 g1
  clear g1 KA
  dsimp only
  rcases HA2.out with rfl | rfl
  rotate_left
  · obtain rfl : RES = ([], 1) := by have h := HRES.out; rw [if_neg (by simp [orF])] at h; rw [← h]; simp [orF]
    have HGE := Lib.hid (GA.out.trans HG.out)
    clear HRES HZ HLEN HLW HA2 HB2 KRA KRB KFA KFB KB KW
    rw [show ((1 : Int) == 0) = false from rfl]
    go_wp2
    go_ret2
    exact ⟨_, rfl, SlI.nil _, HGE.out⟩
  rw [show ((0 : Int) == 0) = true from rfl]
  go_wp2_with fail
  refine (KB.out _ (GA.out.trans HG.out)).mono ?_
  rintro e w2 ⟨rfl, g2⟩
  have HG2 := Lib.hid (HG.out.trans g2)
  clear g2 x0 x1 y0 y1 HG KB
  obtain ⟨x0, x1, y0, y1⟩ := HBC.out w2 HG2.out
  dsimp only
  rcases HB2.out with rfl | rfl
  rotate_left
  · obtain rfl : RES = ([], 1) := by have h := HRES.out; rw [if_neg (by simp [orF])] at h; rw [← h]; simp [orF]
    have HGE := Lib.hid (GA.out.trans HG2.out)
    clear HRES HZ HLEN HLW HA2 HB2 KRA KRB KFA KFB KW
    rw [show ((1 : Int) == 0) = false from rfl]
    go_wp2
    go_ret2
    exact ⟨_, rfl, SlI.nil _, HGE.out⟩
  rw [show ((0 : Int) == 0) = true from rfl]
  go_wp2_with fail
  refine (KW.out _).mono ?_
  rintro e w3 ⟨rfl, rfl⟩
  clear KW
  dsimp only
  cases q with
  | false =>
    obtain rfl : NL = 3 := HLW.out
    obtain rfl : RES = ([], 3) := by have h := HRES.out; rw [if_neg (by simp [orF])] at h; rw [← h]; simp [orF]
    have HGE := Lib.hid (GA.out.trans HG2.out)
    clear HRES HZ HLEN HLW HA2 HB2 KRA KRB KFA KFB
    go_wp2
    go_ret2
    exact ⟨_, rfl, SlI.nil _, HGE.out⟩
  | true =>
  obtain rfl : NL = 0 := HLW.out
  obtain rfl : RES = (difW DB (t.brs ++ u.brs) [], 0) := by have h := HRES.out; rw [if_pos (show orF [0, 0, 0] = 0 from rfl)] at h; exact h.symm
  have HDB := Lib.hid (HZ.out (by first | rfl | trivial) (by first | rfl | trivial) (by first | rfl | trivial))
  have HL2 := Lib.hid (HLEN.out (by first | rfl | trivial) (by first | rfl | trivial))
  clear HRES HZ HLEN HLW HA2 HB2
  go_wp2_with fail
  go_region_held3 (fun W => W.cell? ⟨w.heap.size, 1, none⟩ = some (.slice Ba csa.length da) ∧ W.cell? ⟨w.heap.size + 1, 1, none⟩ = some (.slice Bb csb.length db)) (exact ⟨keep_cell (by repeat (first | exact Grew.refl _ | exact G6.out | exact G5.out | refine Grew.drew ?_ | refine Grew.drewN ?_ _ | refine Grew.alloc ?_ _)) x1, keep_cell (by repeat (first | exact Grew.refl _ | exact G6.out | exact G5.out | refine Grew.drew ?_ | refine Grew.drewN ?_ _ | refine Grew.alloc ?_ _)) y1⟩) (first | (refine stepR (o := ⟨some 44, _, _, _, _, _⟩) (by rfl) (.tmp 41) (.tmp 43) 23 (by rfl) w2 56 i0 (.agg #[.int .i64 0, .int .i64 0, .int .i64 0, .string ⟨#[]⟩, .string ⟨#[]⟩, .slice none 0 0]) 6 80 Tryz.underlying23 hi0 hz0 hz1 hz2 rfl (by omega) _ 0 [] (by rfl) _ (own_lit w2.heap.size (by simp) (Nat.le_refl _)) (by repeat (first | exact Grew.refl _ | exact G6.out | exact G5.out | refine Grew.drew ?_ | refine Grew.drewN ?_ _ | refine Grew.alloc ?_ _)) _ csa.length (csa.flatMap BrC.cells) (by rfl) (HBA.out _ (GA.out.trans (HG2.out.trans (by repeat (first | exact Grew.refl _ | exact G6.out | exact G5.out | refine Grew.drew ?_ | refine Grew.drewN ?_ _ | refine Grew.alloc ?_ _))))) hlxa H1A.out (by unfold maxLen; omega) (by omega) ?_; intro v5 w5 o5 g5 _; simp only [Nat.zero_add, List.nil_append] at o5; obtain ⟨A5, c5, rfl⟩ := own_slice o5; have O5 := Lib.hid o5; have G5 := Lib.hid g5; clear o5 g5) | (refine stepR (o := ⟨some 47, _, _, _, _, _⟩) (by rfl) (.tmp 44) (.tmp 46) 23 (by rfl) w2 56 i0 (.agg #[.int .i64 0, .int .i64 0, .int .i64 0, .string ⟨#[]⟩, .string ⟨#[]⟩, .slice none 0 0]) 6 80 Tryz.underlying23 hi0 hz0 hz1 hz2 rfl (by omega) _ csa.length (csa.flatMap BrC.cells) (by rfl) _ O5.out G5.out _ csb.length (csb.flatMap BrC.cells) (by rfl) (HBB.out _ (GA.out.trans (HG2.out.trans (by repeat (first | exact Grew.refl _ | exact G6.out | exact G5.out | refine Grew.drew ?_ | refine Grew.drewN ?_ _ | refine Grew.alloc ?_ _))))) hlxb H1B.out (by unfold maxLen; omega) (by omega) ?_; intro v6 w6 o6 g6 _; obtain ⟨A6, c6, rfl⟩ := own_slice o6; have O6 := Lib.hid o6; have G6 := Lib.hid g6; clear o6 g6))
  have HV := Lib.hid (show SlBr w6 (.slice A6 (csa.length + csb.length) c6) (t.brs ++ u.brs) from ⟨csa ++ csb, (by have h := Rd.of_own O6.out; rw [← List.flatMap_append] at h; exact h), (by rw [List.length_append, List.length_append, HCA.out, HCB.out]), fun i h h2 => (by
    have g6 := GA.out.trans (HG2.out.trans G6.out)
    by_cases hi : i < csa.length
    · have hi2 : i < t.brs.length := by rw [← HCA.out]; exact hi
      rw [List.getElem_append_left hi, List.getElem_append_left hi2]
      exact ⟨(HOA.out i hi hi2).1, (HOA.out i hi hi2).2.mono g6⟩
    · have hi2 : ¬ i < t.brs.length := by rw [← HCA.out]; exact hi
      rw [List.getElem_append_right (by omega), List.getElem_append_right (by omega)]
      have hb := HOB.out (i - csa.length) (by rw [List.length_append] at h; omega) (by rw [List.length_append] at h2; have := HCA.out; omega)
      have e : i - t.brs.length = i - csa.length := by rw [HCA.out]
      simp only [e]
      exact ⟨hb.1, hb.2.mono g6⟩)⟩)
  clear x0 x1 y0 y1 G5 O5 O6 HBA HBB H1A H1B hlxa hlxb
  have hNL : (t.brs ++ u.brs).length ≤ 1000 := by
    rw [List.length_append]
    have := HL2.out
    omega
  clear hna hnb HOA HOB HCA HCB HL2
  generalize csa.length + csb.length = N at HV ⊢
  have HDL := Lib.hid (fun k h => difW_take DB (t.brs ++ u.brs) (k := k) h)
  have HDN := Lib.hid (fun k => difW_len DB (t.brs ++ u.brs) k)
  have HFIN := Lib.hid (show difW DB ((t.brs ++ u.brs).take (t.brs ++ u.brs).length) [] = difW DB (t.brs ++ u.brs) [] by rw [List.take_length])
  obtain ⟨L, hL⟩ : ∃ L, L = t.brs ++ u.brs := ⟨_, rfl⟩
  rw [← hL] at HV hNL HDL HDN HFIN
  have HLQ := Lib.hid hL
  clear hL
  obtain ⟨A', c', e, -, -, hrow⟩ := SlBr.open_ HV.out
  injection e with e1 e2 e3
  subst e1 e2 e3
  have HRW := Lib.hid hrow
  have HGW := Lib.hid (GA.out.trans (HG2.out.trans G6.out))
  have HGA := Lib.hid (HG2.out.trans G6.out)
  clear hrow HV G6 HG2 GA
  go_wp2_with fail
  go_loopg [14, 16] L.length (fun gg s14 s16 wr => ∃ k : Nat, k ≤ L.length ∧ L.length - k ≤ gg ∧ s16 = .int .i64 (k : Int) ∧ Aside (SlI wr s14 (difW DB (L.take k) [])) ∧ Aside (Grew w6 wr))
  case atStart => exact ⟨0, by omega, by omega, rfl, (show Aside _ from by rw [List.take_zero]; exact SlI.nil _), (show Aside _ from Grew.refl _)⟩
  case round =>
    obtain ⟨k, hkl, hgk, rfl, HL, GW⟩ := hrel
    obtain ⟨A9, c9, rfl, -⟩ := SlI.open_ HL.out
    by_cases hlt : k < L.length
    rotate_left
    · have hltz : ¬ (k : Int) < (L.length : Int) := by omega
      obtain rfl : k = L.length := by omega
      have hl := HL.out
      rw [HFIN.out, HLQ.out] at hl
      have HLF := Lib.hid hl
      have HGE := Lib.hid (HGW.out.trans GW.out)
      clear hl HL HDL HDN HFIN HRW
      go_wp2
      go_ret2
      exact ⟨_, rfl, (by have h := HLF.out; rw [← HLQ.out] at h ⊢; exact h), HGE.out⟩
    have hltz : (k : Int) < (L.length : Int) := by omega
    have h0z : (0 : Int) ≤ (k : Int) := by omega
    obtain ⟨bb6, off6, rfl, -, hcell⟩ := HRW.out (by omega)
    obtain ⟨kv, -, hcl⟩ := hcell k hlt
    obtain ⟨c0, -⟩ := hcl wr GW.out
    have HDK := Lib.hid (HDL.out k hlt)
    have hdn := HDN.out k
    have hdb := HDB.out L[k].id
    have kfa := fun W (hW : Grew w W) => KFA.out L[k].id W hW
    have kfb := fun W (hW : Grew w W) => KFB.out L[k].id W hW
    have kra := KRA.out L[k].id
    have krb := KRB.out L[k].id
    clear hcell hcl
    generalize L[k].id = id at c0 HDK hdb kfa kfb kra krb
    unfold TFindEnd at kfa kfb
    generalize (brFind t.brs id).getD br0 = fa at kfa
    generalize (brFind t.brs id).isSome = qa at kfa hdb
    generalize (brFind u.brs id).getD br0 = fb at kfb
    generalize (brFind u.brs id).isSome = qb at kfb hdb
    generalize (allR t ls bs id wt).1 = LA at kra hdb
    generalize (allR u ls es id wt).1 = LB at krb hdb
    generalize (allR t ls bs id wt).2 = ea at kra
    generalize (allR u ls es id wt).2 = eb at krb
    have hal := fun x y W hx hy => refAlike LA LB x y W hx hy
    generalize decide (LA.map readT = LB.map readT) = d at hdb hal
    generalize DB id = dbb at HDK hdb
    obtain ⟨fai, fap, fal, fat, fam, fak⟩ := fa
    obtain ⟨fbi, fbp, fbl, fbt, fbm, fbk⟩ := fb
    dsimp only at kfa kfb
    have KFA2 := Lib.hid kfa
    have KFB2 := Lib.hid kfb
    have KRA2 := Lib.hid kra
    have KRB2 := Lib.hid krb
    have KAL := Lib.hid hal
    have HD := Lib.hid hdb
    have kI := fun W (hW : Grew wr W) => refInsert (difW DB (L.take k) []) id (.slice A9 (difW DB (L.take k) []).length c9) W (SlI.mono HL.out hW) (by omega)
    have KI := Lib.hid kI
    clear kfa kfb kra krb hal hdb kI
    obtain ⟨x0, x1, y0, y1⟩ := HBC.out wr (HGA.out.trans GW.out)
    have HS0 := Lib.hid HL.out
    generalize difW DB (L.take k) [] = M at KI HDK HS0 hdn
    clear HL
    go_wp2_with fail
    refine (KFA2.out _ (HGW.out.trans GW.out)).mono ?_
    rintro e wa ⟨rfl, ga⟩
    have GB := Lib.hid (ga.alloc (.cells #[.int .i64 fai, .int .i64 fap, .int .i64 fal, .string fat, .string fam] 54))
    clear ga KFA2 x0 x1 y0 y1 c0
    obtain ⟨x0, x1, y0, y1⟩ := HBC.out _ (HGA.out.trans (GW.out.trans GB.out))
    dsimp only
    go_wp2_with fail
    generalize wa.alloc (.cells #[.int .i64 fai, .int .i64 fap, .int .i64 fal, .string fat, .string fam] 54) = wb at GB x0 x1 y0 y1 ⊢
    refine (KFB2.out _ (HGW.out.trans (GW.out.trans GB.out))).mono ?_
    rintro e wc ⟨rfl, gc⟩
    have GD := Lib.hid (GB.out.trans (gc.alloc (.cells #[.int .i64 fbi, .int .i64 fbp, .int .i64 fbl, .string fbt, .string fbm] 54)))
    clear gc KFB2 x0 x1 y0 y1 GB
    obtain ⟨x0, x1, y0, y1⟩ := HBC.out _ (HGA.out.trans (GW.out.trans GD.out))
    dsimp only
    go_wp2_with fail
    generalize wc.alloc (.cells #[.int .i64 fbi, .int .i64 fbp, .int .i64 fbl, .string fbt, .string fbm] 54) = wd at GD x0 x1 y0 y1 ⊢
    refine (KRA2.out _ (HGW.out.trans (GW.out.trans GD.out))).mono ?_
    rintro e we ⟨va2, rfl, oa, ge⟩
    obtain ⟨Aq, cq, rfl⟩ := own_slice oa
    have HLA := Lib.hid (show SlV we (.slice Aq LA.length cq) LA from Rd.of_own oa)
    have GE := Lib.hid (GD.out.trans ge)
    clear oa ge KRA2 x0 x1 y0 y1 GD
    obtain ⟨x0, x1, y0, y1⟩ := HBC.out _ (HGA.out.trans (GW.out.trans GE.out))
    dsimp only
    go_wp2_with fail
    refine (KRB2.out _ (HGW.out.trans (GW.out.trans GE.out))).mono ?_
    rintro e wf ⟨vb2, rfl, ob, gf⟩
    obtain ⟨Ap, cp, rfl⟩ := own_slice ob
    have HLB := Lib.hid (show SlV wf (.slice Ap LB.length cp) LB from Rd.of_own ob)
    have HLA2 := Lib.hid (HLA.out.mono gf)
    have GF := Lib.hid (GE.out.trans gf)
    clear ob gf KRB2 x0 x1 y0 y1 GE HLA
    dsimp only
    cases qa with
    | true =>
      cases qb with
      | true =>
        go_wp2_with fail
        refine (KAL.out _ _ _ HLA2.out HLB.out).mono ?_
        rintro e wg ⟨rfl, gg⟩
        have GG := Lib.hid (GF.out.trans gg)
        clear gg KAL
        dsimp only
        cases d with
        | true =>
          have HDS := Lib.hid (show difW DB (L.take (k + 1)) [] = M by rw [HDK.out, HD.out]; rfl)
          have HS1 := Lib.hid (HS0.out.mono GG.out)
          have GI := Lib.hid (GW.out.trans GG.out)
          clear KI
          go_wp2
          go_roundg (L.length - (k + 1))
          case measure => omega
          case rel => exact ⟨k + 1, by omega, by omega, by go_num, (show Aside _ from by rw [HDS.out]; exact HS1.out), (show Aside _ from GI.out)⟩
        | false =>
          have HDS := Lib.hid (show difW DB (L.take (k + 1)) [] = insU id M by rw [HDK.out, HD.out]; rfl)
          go_wp2_with fail
          refine (KI.out _ GG.out).mono ?_
          rintro e wI ⟨vI, rfl, hvI, gI⟩
          have HVI := Lib.hid hvI
          have GI := Lib.hid (GW.out.trans (GG.out.trans gI))
          clear hvI gI KI
          dsimp only
          go_wp2
          go_roundg (L.length - (k + 1))
          case measure => omega
          case rel => exact ⟨k + 1, by omega, by omega, by go_num, (show Aside _ from by rw [HDS.out]; exact HVI.out), (show Aside _ from GI.out)⟩
      | false =>
        have HDS := Lib.hid (show difW DB (L.take (k + 1)) [] = insU id M by rw [HDK.out, HD.out]; rfl)
        go_wp2_with fail
        refine (KI.out _ GF.out).mono ?_
        rintro e wI ⟨vI, rfl, hvI, gI⟩
        have HVI := Lib.hid hvI
        have GI := Lib.hid (GW.out.trans (GF.out.trans gI))
        clear hvI gI KI
        dsimp only
        go_wp2
        go_roundg (L.length - (k + 1))
        case measure => omega
        case rel => exact ⟨k + 1, by omega, by omega, by go_num, (show Aside _ from by rw [HDS.out]; exact HVI.out), (show Aside _ from GI.out)⟩
    | false =>
      cases qb with
      | true =>
        have HDS := Lib.hid (show difW DB (L.take (k + 1)) [] = insU id M by rw [HDK.out, HD.out]; rfl)
        go_wp2_with fail
        refine (KI.out _ GF.out).mono ?_
        rintro e wI ⟨vI, rfl, hvI, gI⟩
        have HVI := Lib.hid hvI
        have GI := Lib.hid (GW.out.trans (GF.out.trans gI))
        clear hvI gI KI
        dsimp only
        go_wp2
        go_roundg (L.length - (k + 1))
        case measure => omega
        case rel => exact ⟨k + 1, by omega, by omega, by go_num, (show Aside _ from by rw [HDS.out]; exact HVI.out), (show Aside _ from GI.out)⟩
      | false =>
        go_wp2_with fail
        refine (KAL.out _ _ _ HLA2.out HLB.out).mono ?_
        rintro e wg ⟨rfl, gg⟩
        have GG := Lib.hid (GF.out.trans gg)
        clear gg KAL
        dsimp only
        cases d with
        | true =>
          have HDS := Lib.hid (show difW DB (L.take (k + 1)) [] = M by rw [HDK.out, HD.out]; rfl)
          have HS1 := Lib.hid (HS0.out.mono GG.out)
          have GI := Lib.hid (GW.out.trans GG.out)
          clear KI
          go_wp2
          go_roundg (L.length - (k + 1))
          case measure => omega
          case rel => exact ⟨k + 1, by omega, by omega, by go_num, (show Aside _ from by rw [HDS.out]; exact HS1.out), (show Aside _ from GI.out)⟩
        | false =>
          have HDS := Lib.hid (show difW DB (L.take (k + 1)) [] = insU id M by rw [HDK.out, HD.out]; rfl)
          go_wp2_with fail
          refine (KI.out _ GG.out).mono ?_
          rintro e wI ⟨vI, rfl, hvI, gI⟩
          have HVI := Lib.hid hvI
          have GI := Lib.hid (GW.out.trans (GG.out.trans gI))
          clear hvI gI KI
          dsimp only
          go_wp2
          go_roundg (L.length - (k + 1))
          case measure => omega
          case rel => exact ⟨k + 1, by omega, by omega, by go_num, (show Aside _ from by rw [HDS.out]; exact HVI.out), (show Aside _ from GI.out)⟩
end Go.Proofs.YtjaknioojpgkiaaGreatDoor
