/- Lemmas on what the functions of the program and of the library compute: N10. The conditions stand at each. -/
import Derived.Test.YtjaknioojpgkiaaGreatDoorQ40
import Derived.Test.YtjaknioojpgkiaaGreatDoorQ13
/- describe.Differ, walked. The conditions: the library's own variables hold what they must; the lists are short. -/
namespace Go.Proofs.YtjaknioojpgkiaaGreatDoor
open Go.RowKit

theorem or_lit3 (a b c : Int) (W : World) : Calls Tryz.prog 55 #[.slice (some ⟨W.heap.size, 0, none⟩) 3 3] (W.alloc (.cells #[.int .i64 a, .int .i64 b, .int .i64 c] 33)) fun e w' => e = .returned (.int .i64 (orF [a, b, c])) ∧ Grew (W.alloc (.cells #[.int .i64 a, .int .i64 b, .int .i64 c] 33)) w' :=
  (cmpOrE_any [a, b, c] _ _ (err_lit W [a, b, c] 3 rfl (by decide))).mono fun e w' h => ⟨h.1, by rw [← h.2]; exact Grew.refl _⟩
theorem or_zero3 {a b c : Int} (h : orF [a, b, c] = 0) : a = 0 ∧ b = 0 ∧ c = 0 := by
  by_cases ha : a = 0
  · subst ha
    by_cases hb : b = 0
    · subst hb
      refine ⟨rfl, rfl, ?_⟩
      by_cases hc : c = 0
      · exact hc
      · simp [orF, hc] at h
    · simp [orF, hb] at h
  · simp [orF, ha] at h
theorem ids_cells {w : World} {cs : List BrC} {l : List Br} (hl : cs.length = l.length) (h : ∀ i (h : i < cs.length) (h' : i < l.length), BrOk w cs[i] l[i]) : cs.map BrC.id = l.map Br.id := by
  refine List.ext_getElem (by simp [hl]) fun i h1 h2 => ?_
  have h3 : i < cs.length := by simpa using h1
  have h4 : i < l.length := by simpa using h2
  rw [List.getElem_map, List.getElem_map]
  exact congrArg BrC.id (h i h3 h4).1
theorem kv_cells {w : World} {cs : List BrC} {l : List Br} (hl : cs.length = l.length) (h : ∀ i (h : i < cs.length) (h' : i < l.length), BrOk w cs[i] l[i]) : ∀ c ∈ cs, c.kv.oneCell' = true ∧ ∃ X n k, c.kv = .slice X n k := fun c hc => by
  obtain ⟨i, hi, rfl⟩ := List.mem_iff_getElem.1 hc
  have hs := (h i hi (by omega)).2
  obtain ⟨X, k, e, -⟩ := SlI.open_ hs
  exact ⟨slI_one hs, X, _, k, e⟩
theorem held4 (w1 W : World) {p0 p1 p2 p3 : Addr} {y0 y1 y2 y3 : Value} (a0 : w1.cell? p0 = some y0) (a1 : w1.cell? p1 = some y1) (a2 : w1.cell? p2 = some y2) (a3 : w1.cell? p3 = some y3) (g : Grew w1 W) :
    W.cell? p0 = some y0 ∧ W.cell? p1 = some y1 ∧ W.cell? p2 = some y2 ∧ W.cell? p3 = some y3 ∧ Grew w1 W := ⟨keep_cell g a0, keep_cell g a1, keep_cell g a2, keep_cell g a3, g⟩
theorem filt_take {ids : List Int} {DB : Int → Bool} {k : Nat} (h : k < ids.length) : (ids.take (k + 1)).filter DB = if DB ids[k] then (ids.take k).filter DB ++ [ids[k]] else (ids.take k).filter DB := by
  rw [List.take_succ_eq_append_getElem h, List.filter_append]
  cases hd : DB ids[k] <;> simp [hd]
theorem filt_len {ids : List Int} {DB : Int → Bool} (k : Nat) : ((ids.take k).filter DB).length ≤ k := Nat.le_trans (List.length_filter_le _ _) (by rw [List.length_take]; omega)
set_option maxHeartbeats 16000000 in
set_option maxRecDepth 100000 in
theorem dDiffer (t u : Tr) (ls : List ByteArray) (bs es : List Val) (wt : ByteArray) (rv bv ru bu lv vb va : Value) (w : World) (hE : Env w) (hr : SlI w rv t.roots) (hv : SlBr w bv t.brs) (hf : FewBr t.brs) (hrl : t.roots.length ≤ 1000000) (hr2 : SlI w ru u.roots) (hv2 : SlBr w bu u.brs) (hf2 : FewBr u.brs) (hrl2 : u.roots.length ≤ 1000000) (hl : SlS w lv ls) (hb : SlV w vb bs) (hfb : bs.length ≤ 1000000) (ha : SlV w va es) (hfa : es.length ≤ 1000000) :
    Calls Tryz.prog 22 #[.agg #[rv, bv], .agg #[ru, bu], lv, vb, va, .string wt] w (RetNL (difR t u ls bs es wt) w) := by
  have KA := Lib.hid (fun W (hW : Grew w W) => dRight t ls bs rv bv lv vb W (hE.mono hW) (hr.mono hW) (hv.mono hW) hf hrl (hl.mono hW) (hb.mono hW) hfb)
  have KB := Lib.hid (fun W (hW : Grew w W) => dRight u ls es ru bu lv va W (hE.mono hW) (hr2.mono hW) (hv2.mono hW) hf2 hrl2 (hl.mono hW) (ha.mono hW) hfa)
  have KW := Lib.hid (fun W => dWants wt W)
  have kRA := fun id W (hW : Grew w W) => dReads t ls bs id wt rv bv lv vb W (hE.mono hW) (hr.mono hW) (hv.mono hW) hf hrl (hl.mono hW) (hb.mono hW)
  have kRB := fun id W (hW : Grew w W) => dReads u ls es id wt ru bu lv va W (hE.mono hW) (hr2.mono hW) (hv2.mono hW) hf2 hrl2 (hl.mono hW) (ha.mono hW)
  have KO := Lib.hid (fun W => or_lit3 (ofI t ls bs) (ofI u ls es) (lanI wt) W)
  have hlen : orF [ofI t ls bs, ofI u ls es, lanI wt] = 0 → t.brs.length ≤ 256 ∧ u.brs.length ≤ 256 := fun h => by
    obtain ⟨h1, h2, -⟩ := or_zero3 h
    exact ⟨(right_sound (ofI_zero.1 h1).1).len, (right_sound (ofI_zero.1 h2).1).len⟩
  have HLEN := Lib.hid hlen
  unfold difR
  obtain ⟨DB, hDB⟩ : ∃ DB : Int → Bool, DB = difB t u ls bs es wt := ⟨_, rfl⟩
  have HDB := Lib.hid (show ∀ id, DB id = ((((allR t ls bs id wt).2 == 0) != ((allR u ls es id wt).2 == 0)) || !decide ((allR t ls bs id wt).1.map (atU id) = (allR u ls es id wt).1.map (atU id))) from fun id => by rw [hDB]; rfl)
  rw [← hDB]
  generalize hRES : (if orF [ofI t ls bs, ofI u ls es, lanI wt] = 0 then ((idsF t u).filter DB, (0 : Int)) else ([], orF [ofI t ls bs, ofI u ls es, lanI wt])) = RES
  have HRES := Lib.hid hRES
  clear hRES hDB hlen
  generalize orF [ofI t ls bs, ofI u ls es, lanI wt] = Z at KO HLEN HRES
  generalize ofI t ls bs = N0 at KA KO
  generalize ofI u ls es = N1 at KB KO
  generalize lanI wt = NL at KW KO
  obtain ⟨la, hsa, hlla, hoa⟩ := hv
  obtain ⟨lb, hsb, hllb, hob⟩ := hv2
  have hia := ids_cells hlla hoa
  have hib := ids_cells hllb hob
  have hka := kv_cells hlla hoa
  have hkb := kv_cells hllb hob
  have hids : idsF t u = Lib.compact (sortI ((la ++ lb).map BrC.id)) := by
    unfold idsF
    rw [List.map_append, List.map_append, hia, hib]
  rw [hids] at HRES
  have KC := Lib.hid (fun (hz : Z = 0) (B : Nat) (W : World) (hW : Grew w W) h0 h1 => concatB la lb _ _ B W h0 h1 (hsa.mono hW) (hsb.mono hW) (by have := (HLEN.out hz).1; omega) (by have := (HLEN.out hz).2; omega) (fun c hc => (hka c hc).1) (fun c hc => (hkb c hc).1))
  have h1cs : ∀ i (hi : i < (la ++ lb).length), ∃ X n k, (la ++ lb)[i].kv = .slice X n k := fun i hi => by
    rcases List.mem_append.1 (List.getElem_mem hi) with h | h
    · exact (hka _ h).2
    · exact (hkb _ h).2
  have H1C := Lib.hid h1cs
  have HN : RowKit.Hid ((la ++ lb).length = la.length + lb.length) := List.length_append
  have HNL := Lib.hid (show Z = 0 → la.length + lb.length ≤ 512 from fun hz => by have := HLEN.out hz; omega)
  obtain ⟨Aa, ca, rfl, -, -, -⟩ := hsa.open_
  obtain ⟨Ab, cb, rfl, -, -, -⟩ := hsb.open_
  obtain ⟨Ra, da, rfl, -⟩ := SlI.open_ hr
  obtain ⟨Rb, db, rfl, -⟩ := SlI.open_ hr2
  have KRA := Lib.hid kRA
  have KRB := Lib.hid kRB
  clear h1cs kRA kRB
  generalize hcs : la ++ lb = cs at KC HN H1C HRES
  have hla2 := hlla
  rw [← hlla] at HLEN
  rw [← hllb] at HLEN
  generalize la.length = na at KC HN HNL KA KRA HLEN ⊢
  generalize lb.length = nb at KC HN HNL KB KRB HLEN ⊢
  clear hcs hsa hsb hlla hllb hoa hob hia hib hka hkb hids hE hr hr2 hf hrl hf2 hrl2 hl hb hfb ha hfa hla2
  have hbx : ∀ W, Grew ((w.alloc (.cells #[.slice Ra t.roots.length da, .slice Aa na ca] 25)).alloc (.cells #[.slice Rb u.roots.length db, .slice Ab nb cb] 25)) W → W.heap[w.heap.size]? = some (.cells #[.slice Ra t.roots.length da, .slice Aa na ca] 25 (0, 0)) ∧ W.heap[w.heap.size + 1]? = some (.cells #[.slice Rb u.roots.length db, .slice Ab nb cb] 25 (0, 0)) := fun W g => by
    have e1 := heap_newI w (.cells #[.slice Ra t.roots.length da, .slice Aa na ca] 25)
    have e2 := heap_newI (w.alloc (.cells #[.slice Ra t.roots.length da, .slice Aa na ca] 25)) (.cells #[.slice Rb u.roots.length db, .slice Ab nb cb] 25)
    rw [World.size_alloc] at e2
    exact ⟨heap_keepI (((Grew.refl _).alloc _).trans g) e1, heap_keepI g e2⟩
  have HB := Lib.hid hbx
  have GA := Lib.hid (((Grew.refl w).alloc (.cells #[.slice Ra t.roots.length da, .slice Aa na ca] 25)).alloc (.cells #[.slice Rb u.roots.length db, .slice Ab nb cb] 25))
  clear hbx
  unfold RetNL
  obtain ⟨i0, hi, hz0, hz1, hz2⟩ := info_parts cinfoI
  go_enter Tryz.func22, Tryz.ntmps22
  go_wp2_with fail
  generalize (w.alloc (.cells #[.slice Ra t.roots.length da, .slice Aa na ca] 25)).alloc (.cells #[.slice Rb u.roots.length db, .slice Ab nb cb] 25) = WA at GA HB ⊢
  obtain ⟨t0, t1⟩ := two_cells (HB.out _ (Grew.refl _)).1
  obtain ⟨u0, u1⟩ := two_cells (HB.out _ (Grew.refl _)).2
  go_cut [14] from 25 to 36 (fun s14 wx => s14 = .int .i64 Z ∧ Aside (Grew WA wx))
  case first =>
    go_region_held3 (fun W => W.cell? ⟨w.heap.size, 0, none⟩ = some (.slice Ra t.roots.length da) ∧ W.cell? ⟨w.heap.size, 1, none⟩ = some (.slice Aa na ca) ∧ W.cell? ⟨w.heap.size + 1, 0, none⟩ = some (.slice Rb u.roots.length db) ∧ W.cell? ⟨w.heap.size + 1, 1, none⟩ = some (.slice Ab nb cb) ∧ Grew WA W) (refine held4 WA _ t0 t1 u0 u1 (by repeat (with_reducible first | exact Grew.refl _ | exact GQ4.out | exact GQ3.out | exact GQ2.out | exact GQ1.out | refine Grew.drew ?_ | refine Grew.alloc ?_ _))) (first | (go_at_call 56; with_reducible refine (KA.out _ (GA.out.trans (by repeat (with_reducible first | exact Grew.refl _ | refine Grew.drew ?_ | refine Grew.alloc ?_ _)))).mono ?_; rintro e w5 ⟨rfl, gq⟩; have GQ1 := Lib.hid (show Grew WA w5 from Grew.trans (by repeat (with_reducible first | exact Grew.refl _ | refine Grew.drew ?_ | refine Grew.alloc ?_ _)) gq); clear gq) | (go_at_call 56; with_reducible refine (KB.out _ (GA.out.trans (GQ1.out.trans (by repeat (with_reducible first | exact Grew.refl _ | refine Grew.drew ?_ | refine Grew.alloc ?_ _))))).mono ?_; rintro e w6 ⟨rfl, gq⟩; have GQ2 := Lib.hid (show Grew WA w6 from GQ1.out.trans (Grew.trans (by repeat (with_reducible first | exact Grew.refl _ | refine Grew.drew ?_ | refine Grew.alloc ?_ _)) gq)); clear gq) | (go_at_call 70; with_reducible refine (KW.out _).mono ?_; rintro e w7 ⟨rfl, gq⟩; have GQ3 := Lib.hid (show Grew WA w7 from GQ2.out.trans (Grew.trans (by repeat (with_reducible first | exact Grew.refl _ | refine Grew.drew ?_ | refine Grew.alloc ?_ _)) gq)); clear gq) | (go_at_call 55; with_reducible refine (KO.out _).mono ?_; rintro e w8 ⟨rfl, gq⟩; have GQ4 := Lib.hid (show Grew WA w8 from GQ3.out.trans (Grew.trans (by repeat (with_reducible first | exact Grew.refl _ | refine Grew.drew ?_ | refine Grew.alloc ?_ _)) gq)); clear gq))
    all_goals go_wp2_with fail
    all_goals go_meet
    all_goals exact ⟨rfl, (show Aside _ from GQ4.out)⟩
  case rest =>
    obtain ⟨rfl, GC⟩ := hcut
    have HGC := Lib.hid (GA.out.trans GC.out)
    clear t0 t1 u0 u1 KA KB KO KW
    by_cases hz : Z = 0
    case neg =>
      have hzb : (Z != 0) = true := by simpa using hz
      obtain rfl : RES = ([], Z) := by have := HRES.out; rw [if_neg hz] at this; exact this.symm
      clear HRES KRA KRB KC H1C hz HLEN HNL HN HDB
      go_wp2
      go_ret2
      exact ⟨_, rfl, World.ownsRow_nil _ _ _ _, HGC.out⟩
    case pos =>
      subst hz
      have hres := HRES.out
      rw [if_pos rfl] at hres
      have HRS := Lib.hid hres
      have KC2 := Lib.hid (KC.out rfl)
      have hn512 := HNL.out rfl
      have hnn := HN.out
      have hcl : cs.length ≤ 512 := by omega
      clear hnn hn512 hres HRES KC HNL HLEN HN
      obtain ⟨t0, t1⟩ := two_cells (HB.out _ GC.out).1
      obtain ⟨u0, u1⟩ := two_cells (HB.out _ GC.out).2
      go_wp2_with fail
      have hB0 := new_cell (Grew.refl (wc.alloc (.cells [.slice Aa na ca, .slice Ab nb cb].toArray 23))) 0 _ rfl
      have hB1 := new_cell (Grew.refl (wc.alloc (.cells [.slice Aa na ca, .slice Ab nb cb].toArray 23))) 1 _ rfl
      refine (KC2.out _ _ (HGC.out.alloc _) hB0 hB1).mono ?_
      rintro e w3 ⟨v3, rfl, o3, g3⟩
      have G3 := Lib.hid ((GC.out.alloc _).trans g3)
      have HS3 := Lib.hid (show SlB w3 v3 cs from Rd.of_own o3)
      obtain ⟨A, c, rfl, hlc, hc, hcr⟩ := HS3.out.open_
      unfold maxLen at hc
      have HR := Lib.hid hcr
      have HG3 := Lib.hid (HGC.out.trans ((Grew.alloc (Grew.refl wc) _).trans g3))
      clear o3 g3 hcr t0 t1 u0 u1 hB0 hB1 KC2
      dsimp only
      go_wp2_with fail
      go_loopg [15, 47] cs.length (fun gg s15 s47 wr => ∃ k : Nat, k ≤ cs.length ∧ cs.length - k ≤ gg ∧ s47 = .int .i64 (k : Int) ∧ Aside (wr.ownsRow w3.heap.size 3 1 s15 ((cs.map BrC.id).take k).length (((cs.map BrC.id).take k).flatMap oneI)) ∧ Aside (Grew w3 wr))
      case atStart => exact ⟨0, by omega, by omega, rfl, (show Aside _ from World.ownsRow_nil _ _ _ _), (show Aside _ from Grew.refl _)⟩
      case round =>
        obtain ⟨k, hk, hgk, rfl, OW, GW⟩ := hrel
        have HGW := Lib.hid (HG3.out.trans GW.out)
        by_cases hlt : k < cs.length
        · have hltz : (k : Int) < (cs.length : Int) := by omega
          have h0z : (0 : Int) ≤ (k : Int) := by omega
          obtain ⟨bb, off, rfl, hbb, hcell⟩ := HR.out (by omega)
          obtain ⟨c0, c1, c2, c3, c4, c5⟩ := hcell wr GW.out k hlt
          obtain ⟨KX, Kn, Kc, h1k⟩ := H1C.out k hlt
          have htk : (cs.map BrC.id).take (k + 1) = (cs.map BrC.id).take k ++ [cs[k].id] := by
            rw [List.take_succ_eq_append_getElem (by simpa using hlt), List.getElem_map]
          have HTK := Lib.hid htk
          have hlen : ((cs.map BrC.id).take k).length ≤ 512 := by rw [List.length_take]; omega
          clear htk hcell hbb
          generalize cs[k] = y at c0 c1 c2 c3 c4 c5 h1k HTK
          obtain ⟨y1, y2, y3, y4, y5, y6⟩ := y
          dsimp only at c0 c1 c2 c3 c4 c5 h1k HTK
          subst h1k
          go_wp2_with (at_builtin; refine appR rfl _ _ 22 rfl w3 3 i0 (.int .i64 0) 1 8 Tryz.underlying22 hi hz0 hz1 hz2 rfl (by omega) _ _ _ (by rfl) _ (own_keep OW.out (((Grew.refl _).alloc _).alloc _)) ((GW.out.alloc _).alloc _) _ 1 [.int .i64 y1] (by rfl) (rd_lit _ rfl _ (by simp)) rfl (by simp [Value.oneCell']) (by unfold maxLen; omega) (by omega) ?_; intro v8 w8 hown8 hg8 hkp8)
          have OW8 : Aside _ := hown8
          have G8 : Aside _ := hg8
          clear hown8 hg8 hkp8
          go_wp2
          go_roundg (cs.length - (k + 1))
          case measure => omega
          case rel =>
            refine ⟨k + 1, by omega, by omega, by go_num, (show Aside _ from ?_), (show Aside _ from G8.out)⟩
            rw [HTK.out, List.flatMap_append, List.length_append]
            exact OW8.out
        · have hltz : ¬ (k : Int) < (cs.length : Int) := by omega
          obtain rfl : k = cs.length := by omega
          have OWE := Lib.hid OW.out
          rw [List.take_of_length_le (by simp)] at OWE
          have hml : (cs.map BrC.id).length ≤ 512 := by rw [List.length_map]; omega
          clear OW HR H1C
          generalize cs.map BrC.id = L at OWE HRS hml
          go_wp2_with fail
          refine (sort_keep L w3 _ _ wr OWE.out GW.out (by omega)).mono ?_
          rintro e w4 ⟨rfl, o4, g4⟩
          have KM := Lib.hid (compact_own (sortI L) w3 _ _ w4 o4 g4 (by rw [sort_len]; omega) (comp_len _))
          have hcpl : (Lib.compact (sortI L)).length ≤ 512 := Nat.le_trans (comp_len _) (by rw [sort_len]; omega)
          clear o4 g4 OWE GW HGW
          generalize Lib.compact (sortI L) = ids at KM HRS hcpl
          dsimp only
          go_wp2_with fail
          refine KM.out.mono ?_
          rintro e w5 ⟨v5, rfl, s5, g5⟩
          have HS5 := Lib.hid s5
          obtain ⟨A5, c5, rfl, hlc5, hc5, hr5⟩ := s5.open_
          unfold maxLen at hc5
          have HR5 := Lib.hid hr5
          have HG5 := Lib.hid (HG3.out.trans g5)
          have G5 := Lib.hid (G3.out.trans g5)
          clear s5 g5 hr5 KM G3 HG3 hltz
          dsimp only
          go_wp2_with fail
          go_loopg [16, 63] ids.length (fun gg s16 s63 wr => ∃ k : Nat, k ≤ ids.length ∧ ids.length - k ≤ gg ∧ s63 = .int .i64 (k : Int) ∧ Aside (wr.ownsRow w5.heap.size 3 1 s16 ((ids.take k).filter DB).length (((ids.take k).filter DB).flatMap oneI)) ∧ Aside (Grew w5 wr))
          case atStart => exact ⟨0, by omega, by omega, rfl, (show Aside _ from World.ownsRow_nil _ _ _ _), (show Aside _ from Grew.refl _)⟩
          case round =>
            obtain ⟨k, hk, hgk, rfl, OW, GW⟩ := hrel
            have HGW := Lib.hid (HG5.out.trans GW.out)
            have GWA := Lib.hid (G5.out.trans GW.out)
            by_cases hlt : k < ids.length
            · have hltz : (k : Int) < (ids.length : Int) := by omega
              have h0z : (0 : Int) ≤ (k : Int) := by omega
              obtain ⟨bb, off, rfl, hbb, hcell⟩ := HR5.out (by omega)
              have c0 := hcell wr GW.out k hlt
              have HTK := Lib.hid (filt_take (DB := DB) hlt)
              have hlen := filt_len (ids := ids) (DB := DB) k
              have hdb := HDB.out ids[k]
              have kra := KRA.out ids[k]
              have krb := KRB.out ids[k]
              clear hcell hbb
              generalize ids[k] = id at c0 HTK hdb kra krb
              generalize (allR t ls bs id wt).1.map (atU id) = L1 at hdb kra
              generalize (allR u ls es id wt).1.map (atU id) = L2 at hdb krb
              generalize ((allR t ls bs id wt).2 == 0) = q1 at hdb kra
              generalize ((allR u ls es id wt).2 == 0) = q2 at hdb krb
              have hde := fun x y W hx hy => equalV L1 L2 x y W hx hy
              generalize decide (L1 = L2) = d at hdb hde
              generalize DB id = dbb at HTK hdb
              have KRX := Lib.hid kra
              have KRY := Lib.hid krb
              have KEQ := Lib.hid hde
              have HD := Lib.hid hdb
              clear kra krb hde hdb
              obtain ⟨t0, t1⟩ := two_cells (HB.out _ GWA.out).1
              go_wp2_with fail
              refine (KRX.out _ HGW.out).mono ?_
              rintro e w6 ⟨x6, rfl, s6, g6⟩
              have HX6 := Lib.hid s6
              have OW6 := Lib.hid (own_keep OW.out g6)
              have GW6 := Lib.hid (GW.out.trans g6)
              have HGW6 := Lib.hid (HGW.out.trans g6)
              obtain ⟨u0, u1⟩ := two_cells (HB.out _ (GWA.out.trans g6)).2
              clear s6 g6 OW GW HGW GWA c0 t0 t1 KRX
              dsimp only
              go_wp2_with fail
              refine (KRY.out _ HGW6.out).mono ?_
              rintro e w7 ⟨x7, rfl, s7, g7⟩
              have HX7 := Lib.hid (HX6.out.mono g7)
              have HY7 := Lib.hid s7
              have OW7 := Lib.hid (own_keep OW6.out g7)
              have GW7 := Lib.hid (GW6.out.trans g7)
              have HGW7 := Lib.hid (HGW6.out.trans g7)
              clear s7 g7 OW6 GW6 HGW6 u0 u1 KRY HX6
              dsimp only
              cases q1 with
              | true =>
                cases q2 with
                | true =>
                  go_wp2_with fail
                  refine (KEQ.out _ _ _ HX7.out HY7.out).mono ?_
                  rintro e w9 ⟨rfl, g9⟩
                  have OWX := Lib.hid (own_keep OW7.out g9)
                  have GWX := Lib.hid (GW7.out.trans g9)
                  clear g9 KEQ HX7 HY7 OW7 GW7 HGW7
                  dsimp only
                  cases d with
                  | true =>
                    have HTT := Lib.hid (show (ids.take (k + 1)).filter DB = (ids.take k).filter DB from by rw [HTK.out, HD.out]; rfl)
                    clear HTK HD
                    go_wp2
                    go_roundg (ids.length - (k + 1))
                    case measure => omega
                    case rel => exact ⟨k + 1, by omega, by omega, by go_num, (show Aside _ from by rw [HTT.out]; exact OWX.out), (show Aside _ from GWX.out)⟩
                  | false =>
                    have HTT := Lib.hid (show (ids.take (k + 1)).filter DB = (ids.take k).filter DB ++ [id] from by rw [HTK.out, HD.out]; rfl)
                    clear HTK HD
                    generalize (ids.take k).filter DB = F at OWX HTT hlen
                    go_wp2_with (at_builtin; refine appR rfl _ _ 22 rfl w5 3 i0 (.int .i64 0) 1 8 Tryz.underlying22 hi hz0 hz1 hz2 rfl (by omega) _ _ _ (by rfl) _ (own_keep OWX.out ((Grew.refl _).alloc _)) (GWX.out.alloc _) _ 1 [.int .i64 id] (by rfl) (rd_lit _ rfl _ (by simp)) rfl (by simp [Value.oneCell']) (by unfold maxLen; omega) (by omega) ?_; intro v8 w8 hown8 hg8 hkp8)
                    have OW8 : Aside _ := hown8
                    have G8 : Aside _ := hg8
                    clear hown8 hg8 hkp8
                    go_wp2
                    go_roundg (ids.length - (k + 1))
                    case measure => omega
                    case rel =>
                      refine ⟨k + 1, by omega, by omega, by go_num, (show Aside _ from ?_), (show Aside _ from G8.out)⟩
                      rw [HTT.out, List.flatMap_append, List.length_append]
                      exact OW8.out
                | false =>
                  have OWX := Lib.hid OW7.out
                  have GWX := Lib.hid GW7.out
                  clear OW7 GW7 KEQ HX7 HY7
                  have HTT := Lib.hid (show (ids.take (k + 1)).filter DB = (ids.take k).filter DB ++ [id] from by rw [HTK.out, HD.out]; rfl)
                  clear HTK HD
                  generalize (ids.take k).filter DB = F at OWX HTT hlen
                  go_wp2_with (at_builtin; refine appR rfl _ _ 22 rfl w5 3 i0 (.int .i64 0) 1 8 Tryz.underlying22 hi hz0 hz1 hz2 rfl (by omega) _ _ _ (by rfl) _ (own_keep OWX.out ((Grew.refl _).alloc _)) (GWX.out.alloc _) _ 1 [.int .i64 id] (by rfl) (rd_lit _ rfl _ (by simp)) rfl (by simp [Value.oneCell']) (by unfold maxLen; omega) (by omega) ?_; intro v8 w8 hown8 hg8 hkp8)
                  have OW8 : Aside _ := hown8
                  have G8 : Aside _ := hg8
                  clear hown8 hg8 hkp8
                  go_wp2
                  go_roundg (ids.length - (k + 1))
                  case measure => omega
                  case rel =>
                    refine ⟨k + 1, by omega, by omega, by go_num, (show Aside _ from ?_), (show Aside _ from G8.out)⟩
                    rw [HTT.out, List.flatMap_append, List.length_append]
                    exact OW8.out
              | false =>
                cases q2 with
                | true =>
                  have OWX := Lib.hid OW7.out
                  have GWX := Lib.hid GW7.out
                  clear OW7 GW7 KEQ HX7 HY7
                  have HTT := Lib.hid (show (ids.take (k + 1)).filter DB = (ids.take k).filter DB ++ [id] from by rw [HTK.out, HD.out]; rfl)
                  clear HTK HD
                  generalize (ids.take k).filter DB = F at OWX HTT hlen
                  go_wp2_with (at_builtin; refine appR rfl _ _ 22 rfl w5 3 i0 (.int .i64 0) 1 8 Tryz.underlying22 hi hz0 hz1 hz2 rfl (by omega) _ _ _ (by rfl) _ (own_keep OWX.out ((Grew.refl _).alloc _)) (GWX.out.alloc _) _ 1 [.int .i64 id] (by rfl) (rd_lit _ rfl _ (by simp)) rfl (by simp [Value.oneCell']) (by unfold maxLen; omega) (by omega) ?_; intro v8 w8 hown8 hg8 hkp8)
                  have OW8 : Aside _ := hown8
                  have G8 : Aside _ := hg8
                  clear hown8 hg8 hkp8
                  go_wp2
                  go_roundg (ids.length - (k + 1))
                  case measure => omega
                  case rel =>
                    refine ⟨k + 1, by omega, by omega, by go_num, (show Aside _ from ?_), (show Aside _ from G8.out)⟩
                    rw [HTT.out, List.flatMap_append, List.length_append]
                    exact OW8.out
                | false =>
                  go_wp2_with fail
                  refine (KEQ.out _ _ _ HX7.out HY7.out).mono ?_
                  rintro e w9 ⟨rfl, g9⟩
                  have OWX := Lib.hid (own_keep OW7.out g9)
                  have GWX := Lib.hid (GW7.out.trans g9)
                  clear g9 KEQ HX7 HY7 OW7 GW7 HGW7
                  dsimp only
                  cases d with
                  | true =>
                    have HTT := Lib.hid (show (ids.take (k + 1)).filter DB = (ids.take k).filter DB from by rw [HTK.out, HD.out]; rfl)
                    clear HTK HD
                    go_wp2
                    go_roundg (ids.length - (k + 1))
                    case measure => omega
                    case rel => exact ⟨k + 1, by omega, by omega, by go_num, (show Aside _ from by rw [HTT.out]; exact OWX.out), (show Aside _ from GWX.out)⟩
                  | false =>
                    have HTT := Lib.hid (show (ids.take (k + 1)).filter DB = (ids.take k).filter DB ++ [id] from by rw [HTK.out, HD.out]; rfl)
                    clear HTK HD
                    generalize (ids.take k).filter DB = F at OWX HTT hlen
                    go_wp2_with (at_builtin; refine appR rfl _ _ 22 rfl w5 3 i0 (.int .i64 0) 1 8 Tryz.underlying22 hi hz0 hz1 hz2 rfl (by omega) _ _ _ (by rfl) _ (own_keep OWX.out ((Grew.refl _).alloc _)) (GWX.out.alloc _) _ 1 [.int .i64 id] (by rfl) (rd_lit _ rfl _ (by simp)) rfl (by simp [Value.oneCell']) (by unfold maxLen; omega) (by omega) ?_; intro v8 w8 hown8 hg8 hkp8)
                    have OW8 : Aside _ := hown8
                    have G8 : Aside _ := hg8
                    clear hown8 hg8 hkp8
                    go_wp2
                    go_roundg (ids.length - (k + 1))
                    case measure => omega
                    case rel =>
                      refine ⟨k + 1, by omega, by omega, by go_num, (show Aside _ from ?_), (show Aside _ from G8.out)⟩
                      rw [HTT.out, List.flatMap_append, List.length_append]
                      exact OW8.out
            · have hltz : ¬ (k : Int) < (ids.length : Int) := by omega
              obtain rfl : k = ids.length := by omega
              have OWE := Lib.hid OW.out
              rw [List.take_length] at OWE
              obtain rfl : RES = (ids.filter DB, 0) := HRS.out.symm
              clear OW HR5 KRA KRB HDB HRS
              go_wp2
              go_ret2
              exact ⟨_, rfl, own_base OWE.out HG5.out.size, HGW.out⟩
end Go.Proofs.YtjaknioojpgkiaaGreatDoor
