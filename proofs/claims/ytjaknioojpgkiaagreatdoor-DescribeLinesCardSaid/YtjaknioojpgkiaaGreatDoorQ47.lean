/- Lemmas on what the functions of the program and of the library compute: N12. The conditions stand at each. -/
import Derived.Test.YtjaknioojpgkiaaGreatDoorQ46
import Derived.Test.YtjaknioojpgkiaaGreatDoorQ42
/- describe.Print, walked. The conditions: the library's own variables hold what they must; the lists are short. -/
namespace Go.Proofs.YtjaknioojpgkiaaGreatDoor
open Go.RowKit

set_option maxHeartbeats 1000000 in
set_option maxRecDepth 100000 in
/-- The string of a page that holds a byte. -/
theorem bString (B b : Nat) (l : List UInt8) (w : World) (h : IsPg B b (Lib.byteCells l) w) (h0 : l ≠ []) :
    Calls Tryz.prog 80 #[.pointer (some ⟨b, 0, none⟩)] w fun e w' => e = .returned (.string ⟨l.toArray⟩) ∧ Below B w w' := by
  obtain ⟨p, hB, v, hbk, hown, hne⟩ : ∃ p, PgAt B b p (Lib.byteCells l) w := by
    rcases h with h | h
    · exact ⟨_, h⟩
    · exact ⟨_, h⟩
  have hl0 : l.length ≠ 0 := by simpa using h0
  rw [Lib.byteCells_length] at hown
  obtain ⟨g, cap, cur, rfl, hbg, hg, hnc, hcm, hcs, htake⟩ : ∃ g cap cur, v = .slice (some ⟨g, 0, none⟩) l.length cap ∧ B ≤ g ∧ w.heap[g]? = some (.cells cur 5 (0, 0)) ∧ l.length ≤ cap ∧ cap ≤ maxLen ∧ cur.size = cap * 1 ∧ cur.toList.take (l.length * 1) = Lib.byteCells l := by
    rcases hown.2 with ⟨_, hz⟩ | ⟨g, cap, cur, hv, r⟩
    · exact absurd hz hl0
    · exact ⟨g, cap, cur, hv, r⟩
  have c1 : w.drew.cell? ⟨b, 1, none⟩ = some (.slice (some ⟨g, 0, none⟩) l.length cap) := by
    have : w.drew.heap[b]? = some (.cells #[p, .slice (some ⟨g, 0, none⟩) l.length cap] 110 (0, 0)) := hbk
    rw [Lib.cell_of_heap this]; rfl
  have hSD : (Builtin.unsafeSliceData_ #[106] 154 #[.slice (some ⟨g, 0, none⟩) l.length cap]).run Tryz.prog w.drew = .ok (.pointer (some ⟨g, 0, none⟩)) w.drew :=
    Lib.run_unsafeSliceData_row _ _ _ _ _ _ (by omega)
  have hUS : (Builtin.unsafeString_ #[154, 3] 9 #[.pointer (some ⟨g, 0, none⟩), .int .i64 l.length]).run Tryz.prog w.drew = .ok (.string ⟨l.toArray⟩) (w.drew.freeze ⟨g, 0, none⟩ l.length) := by
    refine Lib.run_unsafeString_row w.drew 154 3 9 5 Tryz.underlying154 (by kernel_rfl) g cur.size (by have hg' : w.drew.heap[g]? = some (.cells cur 5 (0, 0)) := hg; simp [World.shape?, hg']) l h0 (by omega) (by unfold maxLen at hcm; omega) ?_
    intro j x hx
    have := hown.cells (g := g) rfl j (.int .u8 x.toNat) (by simp [Lib.byteCells, hx])
    exact this
  go_enter Tryz.func80, Tryz.ntmps80
  go_wp2
  go_region
  all_goals (go_wp2; go_ret; exact ⟨rfl, Lib.below_freeze (Below.drew (Below.refl B w)) (p := ⟨g, 0, none⟩) hbg _⟩)
set_option maxHeartbeats 1000000 in
set_option maxRecDepth 100000 in
/-- The string of a fresh page. -/
theorem bStringNil (B b : Nat) (p : Value) (w : World) (hbk : w.heap[b]? = some (.cells #[p, .slice none 0 0] 110 (0, 0))) :
    Calls Tryz.prog 80 #[.pointer (some ⟨b, 0, none⟩)] w fun e w' => e = .returned (.string ⟨#[]⟩) ∧ Below B w w' := by
  have hUS := fun W (q : Option Addr) => Lib.run_unsafeString_none (P := Tryz.prog) W 154 3 9 q
  have c1 : w.drew.cell? ⟨b, 1, none⟩ = some (.slice none 0 0) := by
    have : w.drew.heap[b]? = some (.cells #[p, .slice none 0 0] 110 (0, 0)) := hbk
    rw [Lib.cell_of_heap this]; rfl
  have hSD : (Builtin.unsafeSliceData_ #[106] 154 #[.slice none 0 0]).run Tryz.prog w.drew = .ok (.pointer none) w.drew := rfl
  go_enter Tryz.func80, Tryz.ntmps80
  go_wp2
  go_region
  all_goals (go_wp2; go_ret; exact ⟨rfl, Below.drew (Below.refl B w)⟩)
theorem lines_succ (L : List Val) (unit : Int) (wt : ByteArray) {k : Nat} (h : k < L.length) : linesB (L.take (k + 1)) unit wt = linesB (L.take k) unit wt ++ lineB L[k] unit wt := by
  unfold linesB
  rw [List.take_succ_eq_append_getElem h, List.flatMap_append]
  simp
theorem word_small (n : Int) : (kindOf n).word.size ≤ 1000 := by
  cases h : isEl n with
  | true => rcases isEl_cases h with rfl | rfl | rfl | rfl | rfl | rfl | rfl | rfl <;> decide
  | false =>
    unfold kindOf
    rw [h, if_neg (by decide)]
    decide
/-- The effective values are small and few. -/
theorem all_small {t : Tr} {ls : List ByteArray} {vs : List Val} {u : Int} {wt : ByteArray} (h : (allR t ls vs u wt).2 = 0) : (allR t ls vs u wt).1.length ≤ 8 ∧ ∀ x ∈ (allR t ls vs u wt).1, x.lang.size ≤ 1000 ∧ x.text.size ≤ 4096 ∧ 1 ≤ x.unit ∧ x.unit ≤ 1073741824 := by
  unfold allR at h ⊢
  by_cases ha : askI t ls vs u 1 wt = 0
  · rw [if_pos ha]
    obtain ⟨⟨hT, hR⟩, -⟩ := askI_zero.1 ha
    refine ⟨?_, fun x hx => ?_⟩
    · unfold allF
      refine Nat.le_trans (List.length_filterMap_le _ _) ?_
      simp
    · obtain ⟨n, -, hn⟩ := List.mem_filterMap.1 hx
      unfold effF at hn
      obtain ⟨lg, -, hf⟩ := List.exists_of_findSome?_eq_some hn
      obtain ⟨k, hk, h1, h2, h3, h4, -⟩ := along_source hf
      have hm := get_there h4
      have hg := hR.2.2.1 _ hm
      have hl2 : isLangF lg.data.toList = true := lang_of_langs hR.1 (by
        have := inL_mem hg.2.2.2.1
        exact this)
      rw [← h3] at hl2
      have hlen : x.lang.data.toList.length = 2 := by
        unfold isLangF at hl2
        simp only [Bool.and_eq_true, decide_eq_true_eq] at hl2
        exact hl2.1
      have htx := hg.2.2.2.2
      dsimp only at htx
      unfold isTextF at htx
      simp only [Bool.and_eq_true, decide_eq_true_eq] at htx
      refine ⟨?_, ?_, ?_, ?_⟩
      · have : x.lang.data.toList.length = x.lang.size := rfl
        omega
      · have : x.text.data.toList.length = x.text.size := rfl
        omega
      · rw [h1]; exact hg.1
      · rw [h1]; exact hg.2.1
  · rw [if_neg ha] at h
    exact absurd h ha
theorem line_len (v : Val) (unit : Int) (wt : ByteArray) (h1 : v.lang.size ≤ 1000) (h2 : v.text.size ≤ 4096) (h3 : 1 ≤ v.unit) (h4 : v.unit ≤ 1073741824) : (lineB v unit wt).length ≤ 20000 := by
  unfold lineB
  have a := word_small v.elem
  have b := Lib.itoa_length_le v.unit (by omega) (by omega)
  have c := nl_len v.text.data.toList
  have e1 : (kindOf v.elem).word.data.toList.length = (kindOf v.elem).word.size := rfl
  have e2 : v.lang.data.toList.length = v.lang.size := rfl
  have e3 : v.text.data.toList.length = v.text.size := rfl
  simp only [List.length_append, List.length_cons, List.length_nil]
  have i1 : (if (v.lang.toList == wt.toList) = true then ([] : List UInt8) else [32, 40] ++ v.lang.data.toList ++ [41]).length ≤ 1010 := by
    split
    · simp
    · simp only [List.length_append, List.length_cons, List.length_nil]; omega
  have i2 : (if v.unit = unit then ([] : List UInt8) else [32, 102, 114, 111, 109, 32] ++ Lib.itoa v.unit).length ≤ 30 := by
    split
    · simp
    · simp only [List.length_append, List.length_cons, List.length_nil]; omega
  simp only [List.append_assoc] at i1 i2 ⊢
  omega
set_option maxHeartbeats 8000000 in
set_option maxRecDepth 100000 in
theorem dPrint (t : Tr) (ls : List ByteArray) (vs : List Val) (u : Int) (wt : ByteArray) (rv bv lv vv : Value) (w : World) (hE : Env w) (hr : SlI w rv t.roots) (hv : SlBr w bv t.brs) (hf : FewBr t.brs) (hrl : t.roots.length ≤ 1000000) (hl : SlS w lv ls) (hvv : SlV w vv vs) :
    Calls Tryz.prog 24 #[.agg #[rv, bv], lv, vv, .int .i64 u, .string wt] w fun e w' => e = .returned (.tuple #[.string (printR t ls vs u wt).1, .int .i64 (printR t ls vs u wt).2]) ∧ Grew w w' := by
  have kA := fun W (hW : Grew w W) => iAllX t ls vs u wt rv bv lv vv W (hE.mono hW) (hr.mono hW) (hv.mono hW) hf hrl (hl.mono hW) (hvv.mono hW)
  have hsm := fun h => all_small (t := t) (ls := ls) (vs := vs) (u := u) (wt := wt) h
  unfold RetVL at kA
  unfold printR
  generalize allR t ls vs u wt = R at kA hsm ⊢
  obtain ⟨L, re⟩ := R
  dsimp only at kA hsm ⊢
  have KA := Lib.hid kA
  have HSM := Lib.hid hsm
  have HE := Lib.hid hE
  obtain ⟨Ar0, cr0, rfl, -⟩ := hr.open_
  obtain ⟨Ab0, cb0, rfl, -⟩ := hv.open_
  clear kA hsm hE hr hv hf hrl hl hvv
  have GA := Lib.hid ((Grew.refl w).alloc (.cells #[.slice Ar0 t.roots.length cr0, .slice Ab0 t.brs.length cb0] 25))
  generalize hRES : (if re = 0 then ((⟨(linesB L u wt).toArray⟩ : ByteArray), (0 : Int)) else (⟨#[]⟩, re)) = RES
  have HRES := Lib.hid hRES
  clear hRES
  go_enter Tryz.func24, Tryz.ntmps24
  go_wp2_with fail
  refine (KA.out _ GA.out).mono ?_
  rintro e w1 ⟨v1, rfl, ho, g1⟩
  obtain ⟨A1, c1, rfl⟩ := own_slice ho
  have HS1 := Lib.hid (show SlV w1 (.slice A1 L.length c1) L from Rd.of_own ho)
  have G1 := Lib.hid (GA.out.trans g1)
  clear ho g1 KA
  dsimp only
  by_cases hz : re = 0
  · subst hz
    obtain ⟨hL8, hLs⟩ := HSM.out rfl
    obtain rfl : RES = (⟨(linesB L u wt).toArray⟩, 0) := by have := HRES.out; rw [if_pos rfl] at this; exact this.symm
    obtain ⟨A2, c2, hv2, hlc, hc, hcr⟩ := HS1.out.open_
    injection hv2 with q1 _ q3
    subst q1 q3
    unfold maxLen at hc
    have HR := Lib.hid hcr
    have HLS := Lib.hid hLs
    have HPG := Lib.hid (show IsPg w1.heap.size w1.heap.size (Lib.byteCells []) (w1.alloc (.cells #[.pointer none, .slice none 0 0] 110)) from Lib.fresh_isBuilder _ _ w1)
    have HNIL := Lib.hid (heap_newI w1 (.cells #[.pointer none, .slice none 0 0] 110))
    have HE1 := Lib.hid (HE.out.mono G1.out)
    clear hcr hLs HSM HRES HS1 HE
    go_wp2_with fail
    generalize hWP : w1.alloc (.cells #[.pointer none, .slice none 0 0] 110) = WP at HPG HNIL ⊢
    have GP := Lib.hid (show Grew w1 WP by rw [← hWP]; exact (Grew.refl w1).alloc _)
    clear hWP
    go_loopg [33] L.length (fun gg s33 wr => ∃ k : Nat, k ≤ L.length ∧ L.length - k ≤ gg ∧ s33 = .int .i64 (k : Int) ∧ Aside (IsPg w1.heap.size w1.heap.size (Lib.byteCells (linesB (L.take k) u wt)) wr) ∧ Aside (k = 0 → wr.heap[w1.heap.size]? = some (.cells #[.pointer none, .slice none 0 0] 110 (0, 0))) ∧ Aside ((linesB (L.take k) u wt).length ≤ 20000 * k) ∧ Aside (Grew w1 wr))
    case atStart => exact ⟨0, by omega, by omega, rfl, (show Aside _ from HPG.out), (show Aside _ from fun _ => HNIL.out), (show Aside _ from (show (linesB (L.take 0) u wt).length ≤ 20000 * 0 by simp [linesB])), (show Aside _ from GP.out)⟩
    case round =>
      obtain ⟨k, hk, hgk, rfl, PG, NL, LN, GW⟩ := hrel
      by_cases hlt : k < L.length
      · have hltz : (k : Int) < (L.length : Int) := by omega
        have h0z : (0 : Int) ≤ (k : Int) := by omega
        obtain ⟨bb, off, rfl, hbb, hcell⟩ := HR.out (by omega)
        obtain ⟨y0, y1, y2, y3⟩ := hcell wr GW.out k hlt
        have hsuc := lines_succ L u wt hlt
        obtain ⟨s1, s2, s3, s4⟩ := HLS.out L[k] (List.getElem_mem hlt)
        have hwd := word_small L[k].elem
        have hll := line_len L[k] u wt s1 s2 s3 s4
        have hbl : (linesB (L.take k) u wt).length ≤ 1000000 := by have := LN.out; omega
        have HSUC := Lib.hid hsuc
        have hpos := line_pos L[k] u wt
        clear hcell hbb hsuc
        generalize L[k] = y at y0 y1 y2 y3 s1 s2 s3 s4 hwd hll HSUC hpos
        have HADD := Lib.hid (fun W (hW : Grew w1 W) (hp : IsPg w1.heap.size w1.heap.size (Lib.byteCells (linesB (L.take k) u wt)) W) => dAdd y u wt w1 W w1.heap.size (linesB (L.take k) u wt) HE1.out hW hp hbl hwd s1 (by omega) (by omega) (by omega))
        obtain ⟨yu, ye, yl, yt⟩ := y
        unfold Val.agg at HADD
        dsimp only at y0 y1 y2 y3 HADD
        have HLL := Lib.hid hll
        clear hll s1 s2 s3 s4 hwd hbl hpos
        go_wp2_with fail
        refine (HADD.out _ (GW.out.alloc _) (IsPg.later PG.out ((Grew.refl wr).alloc _))).mono ?_
        rintro e w5 ⟨rfl, hp5, hg5, -⟩
        have HP5 := Lib.hid hp5
        have HG5 := Lib.hid hg5
        clear hp5 hg5 HADD
        dsimp only
        go_wp2
        go_roundg (L.length - (k + 1))
        case measure => omega
        case rel =>
          refine ⟨k + 1, by omega, by omega, by go_num, (show Aside _ from ?_), (show Aside _ from fun h => absurd h (by omega)), (show Aside _ from ?_), (show Aside _ from HG5.out)⟩
          · rw [HSUC.out]
            exact HP5.out
          · show _ ≤ _
            rw [HSUC.out, List.length_append]
            have := LN.out
            have := HLL.out
            omega
      · have hltz : ¬ (k : Int) < (L.length : Int) := by omega
        obtain rfl : k = L.length := by omega
        have HGE := Lib.hid (G1.out.trans GW.out)
        have PE := Lib.hid PG.out
        rw [List.take_length] at PE
        by_cases h0 : L.length = 0
        · have hn := NL.out h0
          obtain rfl : L = [] := List.eq_nil_of_length_eq_zero h0
          have KS := Lib.hid (bStringNil w.heap.size _ _ _ hn)
          clear PG NL LN hn
          go_wp2_with fail
          refine KS.out.mono ?_
          rintro e w6 ⟨rfl, g6⟩
          have HG6 := Lib.hid (show Grew w w6 from Below.trans HGE.out g6)
          clear g6 KS
          dsimp only
          go_wp2
          go_ret2
          exact ⟨rfl, HG6.out⟩
        · have hne : linesB L u wt ≠ [] := by
            cases L with
            | nil => exact absurd rfl h0
            | cons x r =>
              unfold linesB
              rw [List.flatMap_cons]
              intro e
              exact line_pos x u wt (List.append_eq_nil_iff.1 e).1
          have KS := Lib.hid (bString w1.heap.size _ _ _ PE.out hne)
          clear PG NL LN hne PE
          generalize hby : (⟨(linesB L u wt).toArray⟩ : ByteArray) = bytes at KS
          have HBY := Lib.hid hby
          clear hby
          go_wp2_with fail
          refine KS.out.mono ?_
          rintro e w6 ⟨rfl, g6⟩
          have HG6 := Lib.hid (show Grew w w6 from G1.out.trans (Below.trans GW.out g6))
          clear g6 KS
          dsimp only
          go_wp2
          go_ret2
          refine ⟨?_, HG6.out⟩
          rw [HBY.out]
          rfl
  · have hzb : (re != 0) = true := by simpa using hz
    obtain rfl : RES = (⟨#[]⟩, re) := by have := HRES.out; rw [if_neg hz] at this; exact this.symm
    clear HRES HSM hz HE HS1
    go_wp2
    go_ret2
    exact ⟨rfl, G1.out⟩
end Go.Proofs.YtjaknioojpgkiaaGreatDoor
