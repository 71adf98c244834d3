/- Lemmas on what the functions of the program and of the library compute: N11. The conditions stand at each. -/
import Derived.Test.YtjaknioojpgkiaaGreatDoorQ45
import Derived.Laws.Concat
/- (*describe.page).add, walked: the page holds one part more. The conditions: the library's own variables hold what they must; the page and the value are small. -/
namespace Go.Proofs.YtjaknioojpgkiaaGreatDoor
open Go.RowKit

theorem kept_grew {b : Nat} {w w' : World} (g : Grew w w') : PgKept b w w' := fun k x hk _ _ => by
  rw [g.block k (Array.getElem?_eq_some_iff.1 hk).1]
  exact hk
theorem PgKept.trans {b : Nat} {w1 w2 w3 : World} (h : PgKept b w1 w2) (k : PgKept b w2 w3) : PgKept b w1 w3 := Lib.OthersKept.trans h k
theorem pg_step {w0 w W w6 : World} {b : Nat} {p : Value} {bs : List UInt8} {s : ByteArray} {k : Nat} {cs : Array Value} {T : TypeId} {fz : Nat × Nat} (hg : Grew w0 W) (hk : PgKept b w W) (hbx : W.heap[k]? = some (.cells cs T fz)) (hkb : k ≠ b) (hT : T ≠ 5)
    (h1 : PgAt w0.heap.size b p (Lib.byteCells bs ++ Lib.strCells s) w6) (hp : p = .pointer (some ⟨b, 0, none⟩)) (h2 : Below w0.heap.size W w6) (h3 : PgKept b W w6) :
    IsPg w0.heap.size b (Lib.byteCells (bs ++ s.data.toList)) w6 ∧ Grew w0 w6 ∧ PgKept b w w6 ∧ w6.heap[k]? = some (.cells cs T fz) := by
  subst hp
  refine ⟨.inr ?_, Below.trans hg h2, Lib.OthersKept.trans hk h3, pg_block h3 hbx hkb hT⟩
  rw [Lib.byteCells_append, ← Lib.strCells_eq]
  exact h1
theorem repl_any (s : ByteArray) (hs : s.size ≤ 5000) (w : World) (hE : Env w) : Calls Tryz.prog 129 #[.string s, .string ⟨#[10]⟩, .string ⟨#[10, 32, 32]⟩] w fun e w' => e = .returned (.string ⟨(s.data.toList.flatMap nlB).toArray⟩) ∧ Grew w w' := by
  obtain ⟨m, hm⟩ := hE.1
  have hc : Lib.countB s ⟨#[10]⟩ ≤ s.size := Lib.countB_le ⟨#[10]⟩ (by decide) _ s (Nat.le_refl _)
  have hn : (⟨#[10, 32, 32]⟩ : ByteArray).size = 3 := rfl
  rw [← repl_nl]
  exact (Tryz.strings_ReplaceAll s ⟨#[10]⟩ ⟨#[10, 32, 32]⟩ m w (by omega) hm (by decide) (by rw [hn]; omega)).mono fun _ _ h => ⟨h.1, h.2⟩
set_option maxHeartbeats 8000000 in
set_option maxRecDepth 100000 in
theorem dAdd (v : Val) (unit : Int) (wt : ByteArray) (w0 w : World) (b : Nat) (bs : List UInt8) (hE : Env w0) (hg : Grew w0 w) (h : IsPg w0.heap.size b (Lib.byteCells bs) w) (hbl : bs.length ≤ 1000000) (hwl : (kindOf v.elem).word.size ≤ 1000) (hll : v.lang.size ≤ 1000) (htl : v.text.size ≤ 5000) (hu0 : -9223372036854775808 ≤ v.unit) (hu1 : v.unit ≤ 9223372036854775807) :
    Calls Tryz.prog 79 #[.pointer (some ⟨b, 0, none⟩), v.agg, .int .i64 unit, .string wt] w fun e w' => e = .returned (.tuple #[]) ∧ IsPg w0.heap.size b (Lib.byteCells (bs ++ lineB v unit wt)) w' ∧ Grew w0 w' ∧ PgKept b w w' := by
  obtain ⟨vu, ve, vl, vt⟩ := v
  unfold Val.agg lineB
  dsimp only at hwl hll htl hu0 hu1 ⊢
  have hblt : b < w.heap.size := by rcases h with h | h <;> exact h.lt
  have KW := Lib.hid (fun W => word_any ve W)
  have KI := Lib.hid (show ∀ W, Grew w0 W → Calls Tryz.prog 128 #[.int .i64 vu] W fun e w' => e = .returned (.string (itoaB vu)) ∧ Grew W w' from fun W (hW : Grew w0 W) => itoa_any vu hu0 hu1 W (hE.mono hW))
  have KR := Lib.hid (fun W (hW : Grew w0 W) => repl_any vt htl W (hE.mono hW))
  have hil := Lib.itoa_length_le vu hu0 hu1
  have hnl := nl_len vt.data.toList
  have hns : vt.data.toList.length = vt.size := rfl
  generalize (kindOf ve).word = wd at KW hwl ⊢
  have hrs : (⟨(vt.data.toList.flatMap nlB).toArray⟩ : ByteArray).size = (vt.data.toList.flatMap nlB).length := by simp [ByteArray.size]
  have hrd : (⟨(vt.data.toList.flatMap nlB).toArray⟩ : ByteArray).data.toList = vt.data.toList.flatMap nlB := by simp
  rw [← hrd] at hnl ⊢
  generalize (⟨(vt.data.toList.flatMap nlB).toArray⟩ : ByteArray) = rt at KR hrs hrd hnl ⊢
  have hid : (itoaB vu).data.toList = Lib.itoa vu := by simp [itoaB]
  rw [← hid] at hil ⊢
  generalize itoaB vu = ns at KI hil ⊢
  have hrl : rt.size ≤ 15000 := by have : rt.data.toList.length = rt.size := rfl; omega
  have hnsl : ns.size ≤ 100 := by have : ns.data.toList.length = ns.size := rfl; omega
  generalize hql : (vl.toList == wt.toList) = ql
  generalize hRES : bs ++ (wd.data.toList ++ (if ql = true then [] else [32, 40] ++ vl.data.toList ++ [41]) ++ (if vu = unit then [] else [32, 102, 114, 111, 109, 32] ++ ns.data.toList) ++ ([58, 32] ++ rt.data.toList ++ [10])) = RES
  have HRES := Lib.hid hRES
  clear hRES
  have HG := Lib.hid (hg.alloc (.cells #[.int .i64 vu, .int .i64 ve, .string vl, .string vt] 29))
  have HP := Lib.hid (IsPg.later h ((Grew.refl w).alloc (.cells #[.int .i64 vu, .int .i64 ve, .string vl, .string vt] 29)))
  have HK := Lib.hid (show PgKept b w (w.alloc (.cells #[.int .i64 vu, .int .i64 ve, .string vl, .string vt] 29)) from kept_grew ((Grew.refl w).alloc _))
  have HX := Lib.hid (heap_newI w (.cells #[.int .i64 vu, .int .i64 ve, .string vl, .string vt] 29))
  have HB0 := Lib.hid (show w0.heap.size ≤ w.heap.size from hg.size)
  have hkb : w.heap.size ≠ b := by omega
  clear hil hnl hrs hrd hns hid h hE hg hu0 hu1 htl
  go_enter Tryz.func79, Tryz.ntmps79
  go_wp2_with fail
  generalize w.alloc (.cells #[.int .i64 vu, .int .i64 ve, .string vl, .string vt] 29) = WA at HG HP HK HX ⊢
  generalize w.heap.size = X at HX HB0 hkb ⊢
  obtain ⟨⟨x0, x1, x2, x3⟩, -⟩ := four_cells HX.out
  have hs3 : ((⟨#[32, 40]⟩ : ByteArray) ++ vl ++ (⟨#[41]⟩ : ByteArray)).size ≤ 2000 := by rw [ByteArray.size_append, ByteArray.size_append]; exact Nat.le_trans (Nat.add_le_add (Nat.add_le_add (Nat.le_refl _) hll) (Nat.le_refl _)) (by decide)
  have hs5 : ((⟨#[32, 102, 114, 111, 109, 32]⟩ : ByteArray) ++ ns).size ≤ 2000 := by rw [ByteArray.size_append]; exact Nat.le_trans (Nat.add_le_add (Nat.le_refl _) hnsl) (by decide)
  have hs6 : ((⟨#[58, 32]⟩ : ByteArray) ++ rt ++ (⟨#[10]⟩ : ByteArray)).size ≤ 20000 := by rw [ByteArray.size_append, ByteArray.size_append]; exact Nat.le_trans (Nat.add_le_add (Nat.add_le_add (Nat.le_refl _) hrl) (Nat.le_refl _)) (by decide)
  have c1 := fun W => run_string_add_sum (P := Tryz.prog) W ((⟨#[32, 40]⟩ : ByteArray)) (vl) (by have := (show ((⟨#[32, 40]⟩ : ByteArray)).size = 2 from rfl); omega)
  have c2 := fun W => run_string_add_sum (P := Tryz.prog) W ((⟨#[32, 40]⟩ : ByteArray) ++ vl) ((⟨#[41]⟩ : ByteArray)) (by have := (show ((⟨#[32, 40]⟩ : ByteArray)).size = 2 from rfl); have := (show ((⟨#[41]⟩ : ByteArray)).size = 1 from rfl); rw [ByteArray.size_append]; omega)
  have c3 := fun W => run_string_add_sum (P := Tryz.prog) W ((⟨#[32, 102, 114, 111, 109, 32]⟩ : ByteArray)) (ns) (by have := (show ((⟨#[32, 102, 114, 111, 109, 32]⟩ : ByteArray)).size = 6 from rfl); omega)
  have c4 := fun W => run_string_add_sum (P := Tryz.prog) W ((⟨#[58, 32]⟩ : ByteArray)) (rt) (by have := (show ((⟨#[58, 32]⟩ : ByteArray)).size = 2 from rfl); omega)
  have c5 := fun W => run_string_add_sum (P := Tryz.prog) W ((⟨#[58, 32]⟩ : ByteArray) ++ rt) ((⟨#[10]⟩ : ByteArray)) (by have := (show ((⟨#[58, 32]⟩ : ByteArray)).size = 2 from rfl); have := (show ((⟨#[10]⟩ : ByteArray)).size = 1 from rfl); rw [ByteArray.size_append]; omega)
  have HLEN := Lib.hid (show (Lib.byteCells bs).length + (wd).size ≤ 140737488355328 by rw [Lib.byteCells_length]; exact Nat.le_trans (Nat.add_le_add hbl hwl) (by decide))
  go_region_held3 (fun W => W.cell? ⟨X, 1, none⟩ = some (.int .i64 ve)) (first | exact HSW.out _ (by repeat (with_reducible first | exact Grew.refl _ | refine Grew.drew ?_ | refine Grew.drewN ?_ _ | refine Grew.alloc ?_ _)) | exact keep_cell (by repeat (with_reducible first | exact Grew.refl _ | exact GQ.out | refine Grew.drew ?_ | refine Grew.drewN ?_ _ | refine Grew.alloc ?_ _)) x1) (first | (go_at_call 35; with_reducible refine (KW.out _).mono ?_; rintro e wi ⟨rfl, gq⟩; have GQ := Lib.hid (show Grew WA wi from Grew.trans (by repeat (with_reducible first | exact Grew.refl _ | refine Grew.drew ?_ | refine Grew.drewN ?_ _ | refine Grew.alloc ?_ _)) gq); clear gq) | (go_at_call 127; with_reducible refine (bWrite _ b _ (wd) _ (IsPg.later HP.out (Grew.trans GQ.out (by repeat (with_reducible first | exact Grew.refl _ | refine Grew.drew ?_ | refine Grew.drewN ?_ _ | refine Grew.alloc ?_ _)))) HLEN.out (Grew.size (Grew.trans HG.out (Grew.trans GQ.out (by repeat (with_reducible first | exact Grew.refl _ | refine Grew.drew ?_ | refine Grew.drewN ?_ _ | refine Grew.alloc ?_ _)))))).mono ?_; rintro e w2 ⟨rfl, h1, h2, h3⟩; have HST := Lib.hid (pg_step (Grew.trans HG.out (Grew.trans GQ.out (by repeat (with_reducible first | exact Grew.refl _ | refine Grew.drew ?_ | refine Grew.drewN ?_ _ | refine Grew.alloc ?_ _)))) (PgKept.trans HK.out (kept_grew (Grew.trans GQ.out (by repeat (with_reducible first | exact Grew.refl _ | refine Grew.drew ?_ | refine Grew.drewN ?_ _ | refine Grew.alloc ?_ _))))) (heap_keepI (Grew.trans GQ.out (by repeat (with_reducible first | exact Grew.refl _ | refine Grew.drew ?_ | refine Grew.drewN ?_ _ | refine Grew.alloc ?_ _))) HX.out) hkb (by decide) h1 rfl h2 h3); have HSW := Lib.hid (fun W (hW : Grew w2 W) => (four_cells (heap_keepI hW HST.out.2.2.2)).1.2.1); clear h1 h2 h3))
  obtain ⟨HP1, HG1, HK1, HX1⟩ := HST.out
  replace HP := Lib.hid HP1
  replace HG := Lib.hid HG1
  replace HK := Lib.hid HK1
  replace HX := Lib.hid HX1
  clear HLEN HST HSW HP1 HG1 HK1 HX1 x0 x1 x2 x3 GQ
  obtain ⟨y1, hy1⟩ : ∃ y, y = bs ++ (wd).data.toList := ⟨_, rfl⟩
  rw [← hy1] at HP
  have by1 : y1.length ≤ 1100000 := by
    rw [hy1, List.length_append]
    exact Nat.le_trans (Nat.add_le_add hbl hwl) (by decide)
  have HEy1 := Lib.hid hy1
  clear hy1
  obtain ⟨⟨x0, x1, x2, x3⟩, -⟩ := four_cells HX.out
  clear KW
  cases ql with
  | true =>
    replace HRES := Lib.hid (by have h := HRES.out; rw [if_pos rfl] at h; exact h)
    clear hs3
    by_cases hu : vu = unit
    · have hub : (vu != unit) = false := by simpa using hu
      replace HRES := Lib.hid (by have h := HRES.out; rw [if_pos hu] at h; exact h)
      clear hu KI hs5
      go_wp2_with fail
      have HLEN := Lib.hid (show (Lib.byteCells y1).length + ((⟨#[58, 32]⟩ : ByteArray) ++ rt ++ (⟨#[10]⟩ : ByteArray)).size ≤ 140737488355328 by rw [Lib.byteCells_length]; exact Nat.le_trans (Nat.add_le_add by1 hs6) (by decide))
      go_region_held3 (fun W => W.cell? ⟨X, 3, none⟩ = some (.string vt)) (first | exact HSW.out _ (by repeat (with_reducible first | exact Grew.refl _ | refine Grew.drew ?_ | refine Grew.drewN ?_ _ | refine Grew.alloc ?_ _)) | exact keep_cell (by repeat (with_reducible first | exact Grew.refl _ | exact GQ.out | refine Grew.drew ?_ | refine Grew.drewN ?_ _ | refine Grew.alloc ?_ _)) x3) (first | (go_at_call 129; with_reducible refine (KR.out _ (Grew.trans HG.out (by repeat (with_reducible first | exact Grew.refl _ | refine Grew.drew ?_ | refine Grew.drewN ?_ _ | refine Grew.alloc ?_ _)))).mono ?_; rintro e wi ⟨rfl, gq⟩; have GQ := Lib.hid (show Grew w2 wi from Grew.trans (by repeat (with_reducible first | exact Grew.refl _ | refine Grew.drew ?_ | refine Grew.drewN ?_ _ | refine Grew.alloc ?_ _)) gq); clear gq) | (go_at_call 127; with_reducible refine (bWrite _ b _ ((⟨#[58, 32]⟩ : ByteArray) ++ rt ++ (⟨#[10]⟩ : ByteArray)) _ (IsPg.later HP.out (Grew.trans GQ.out (by repeat (with_reducible first | exact Grew.refl _ | refine Grew.drew ?_ | refine Grew.drewN ?_ _ | refine Grew.alloc ?_ _)))) HLEN.out (Grew.size (Grew.trans HG.out (Grew.trans GQ.out (by repeat (with_reducible first | exact Grew.refl _ | refine Grew.drew ?_ | refine Grew.drewN ?_ _ | refine Grew.alloc ?_ _)))))).mono ?_; rintro e w8 ⟨rfl, h1, h2, h3⟩; have HST := Lib.hid (pg_step (Grew.trans HG.out (Grew.trans GQ.out (by repeat (with_reducible first | exact Grew.refl _ | refine Grew.drew ?_ | refine Grew.drewN ?_ _ | refine Grew.alloc ?_ _)))) (PgKept.trans HK.out (kept_grew (Grew.trans GQ.out (by repeat (with_reducible first | exact Grew.refl _ | refine Grew.drew ?_ | refine Grew.drewN ?_ _ | refine Grew.alloc ?_ _))))) (heap_keepI (Grew.trans GQ.out (by repeat (with_reducible first | exact Grew.refl _ | refine Grew.drew ?_ | refine Grew.drewN ?_ _ | refine Grew.alloc ?_ _))) HX.out) hkb (by decide) h1 rfl h2 h3); have HSW := Lib.hid (fun W (hW : Grew w8 W) => (four_cells (heap_keepI hW HST.out.2.2.2)).1.2.2.2); clear h1 h2 h3))
      obtain ⟨HP2, HG2, HK2, HX2⟩ := HST.out
      replace HP := Lib.hid HP2
      replace HG := Lib.hid HG2
      replace HK := Lib.hid HK2
      replace HX := Lib.hid HX2
      clear HLEN HST HSW HP2 HG2 HK2 HX2 x0 x1 x2 x3 GQ
      obtain ⟨y4, hy4⟩ : ∃ y, y = y1 ++ ((⟨#[58, 32]⟩ : ByteArray) ++ rt ++ (⟨#[10]⟩ : ByteArray)).data.toList := ⟨_, rfl⟩
      rw [← hy4] at HP
      have by4 : y4.length ≤ 1400000 := by
        rw [hy4, List.length_append]
        exact Nat.le_trans (Nat.add_le_add by1 hs6) (by decide)
      have HEy4 := Lib.hid hy4
      clear hy4
      obtain ⟨⟨x0, x1, x2, x3⟩, -⟩ := four_cells HX.out
      go_wp2
      go_end0
      refine ⟨rfl, ?_, HG.out, HK.out⟩
      have hy := HEy4.out
      rw [HEy1.out] at hy
      have hr := HRES.out
      simp only [str_data, List.append_assoc] at hy hr
      have hp := HP.out
      rw [hy] at hp
      rw [← hr]
      simpa [List.append_assoc] using hp
    · have hub : (vu != unit) = true := by simpa using hu
      replace HRES := Lib.hid (by have h := HRES.out; rw [if_neg hu] at h; exact h)
      clear hu
      go_wp2_with fail
      have HLEN := Lib.hid (show (Lib.byteCells y1).length + ((⟨#[32, 102, 114, 111, 109, 32]⟩ : ByteArray) ++ ns).size ≤ 140737488355328 by rw [Lib.byteCells_length]; exact Nat.le_trans (Nat.add_le_add by1 hs5) (by decide))
      go_region_held3 (fun W => W.cell? ⟨X, 0, none⟩ = some (.int .i64 vu)) (first | exact HSW.out _ (by repeat (with_reducible first | exact Grew.refl _ | refine Grew.drew ?_ | refine Grew.drewN ?_ _ | refine Grew.alloc ?_ _)) | exact keep_cell (by repeat (with_reducible first | exact Grew.refl _ | exact GQ.out | refine Grew.drew ?_ | refine Grew.drewN ?_ _ | refine Grew.alloc ?_ _)) x0) (first | (go_at_call 128; with_reducible refine (KI.out _ (Grew.trans HG.out (by repeat (with_reducible first | exact Grew.refl _ | refine Grew.drew ?_ | refine Grew.drewN ?_ _ | refine Grew.alloc ?_ _)))).mono ?_; rintro e wi ⟨rfl, gq⟩; have GQ := Lib.hid (show Grew w2 wi from Grew.trans (by repeat (with_reducible first | exact Grew.refl _ | refine Grew.drew ?_ | refine Grew.drewN ?_ _ | refine Grew.alloc ?_ _)) gq); clear gq) | (go_at_call 127; with_reducible refine (bWrite _ b _ ((⟨#[32, 102, 114, 111, 109, 32]⟩ : ByteArray) ++ ns) _ (IsPg.later HP.out (Grew.trans GQ.out (by repeat (with_reducible first | exact Grew.refl _ | refine Grew.drew ?_ | refine Grew.drewN ?_ _ | refine Grew.alloc ?_ _)))) HLEN.out (Grew.size (Grew.trans HG.out (Grew.trans GQ.out (by repeat (with_reducible first | exact Grew.refl _ | refine Grew.drew ?_ | refine Grew.drewN ?_ _ | refine Grew.alloc ?_ _)))))).mono ?_; rintro e w6 ⟨rfl, h1, h2, h3⟩; have HST := Lib.hid (pg_step (Grew.trans HG.out (Grew.trans GQ.out (by repeat (with_reducible first | exact Grew.refl _ | refine Grew.drew ?_ | refine Grew.drewN ?_ _ | refine Grew.alloc ?_ _)))) (PgKept.trans HK.out (kept_grew (Grew.trans GQ.out (by repeat (with_reducible first | exact Grew.refl _ | refine Grew.drew ?_ | refine Grew.drewN ?_ _ | refine Grew.alloc ?_ _))))) (heap_keepI (Grew.trans GQ.out (by repeat (with_reducible first | exact Grew.refl _ | refine Grew.drew ?_ | refine Grew.drewN ?_ _ | refine Grew.alloc ?_ _))) HX.out) hkb (by decide) h1 rfl h2 h3); have HSW := Lib.hid (fun W (hW : Grew w6 W) => (four_cells (heap_keepI hW HST.out.2.2.2)).1.1); clear h1 h2 h3))
      obtain ⟨HP2, HG2, HK2, HX2⟩ := HST.out
      replace HP := Lib.hid HP2
      replace HG := Lib.hid HG2
      replace HK := Lib.hid HK2
      replace HX := Lib.hid HX2
      clear HLEN HST HSW HP2 HG2 HK2 HX2 x0 x1 x2 x3 GQ
      obtain ⟨y3, hy3⟩ : ∃ y, y = y1 ++ ((⟨#[32, 102, 114, 111, 109, 32]⟩ : ByteArray) ++ ns).data.toList := ⟨_, rfl⟩
      rw [← hy3] at HP
      have by3 : y3.length ≤ 1300000 := by
        rw [hy3, List.length_append]
        exact Nat.le_trans (Nat.add_le_add by1 hs5) (by decide)
      have HEy3 := Lib.hid hy3
      clear hy3
      obtain ⟨⟨x0, x1, x2, x3⟩, -⟩ := four_cells HX.out
      go_wp2_with fail
      have HLEN := Lib.hid (show (Lib.byteCells y3).length + ((⟨#[58, 32]⟩ : ByteArray) ++ rt ++ (⟨#[10]⟩ : ByteArray)).size ≤ 140737488355328 by rw [Lib.byteCells_length]; exact Nat.le_trans (Nat.add_le_add by3 hs6) (by decide))
      go_region_held3 (fun W => W.cell? ⟨X, 3, none⟩ = some (.string vt)) (first | exact HSW.out _ (by repeat (with_reducible first | exact Grew.refl _ | refine Grew.drew ?_ | refine Grew.drewN ?_ _ | refine Grew.alloc ?_ _)) | exact keep_cell (by repeat (with_reducible first | exact Grew.refl _ | exact GQ.out | refine Grew.drew ?_ | refine Grew.drewN ?_ _ | refine Grew.alloc ?_ _)) x3) (first | (go_at_call 129; with_reducible refine (KR.out _ (Grew.trans HG.out (by repeat (with_reducible first | exact Grew.refl _ | refine Grew.drew ?_ | refine Grew.drewN ?_ _ | refine Grew.alloc ?_ _)))).mono ?_; rintro e wi ⟨rfl, gq⟩; have GQ := Lib.hid (show Grew w6 wi from Grew.trans (by repeat (with_reducible first | exact Grew.refl _ | refine Grew.drew ?_ | refine Grew.drewN ?_ _ | refine Grew.alloc ?_ _)) gq); clear gq) | (go_at_call 127; with_reducible refine (bWrite _ b _ ((⟨#[58, 32]⟩ : ByteArray) ++ rt ++ (⟨#[10]⟩ : ByteArray)) _ (IsPg.later HP.out (Grew.trans GQ.out (by repeat (with_reducible first | exact Grew.refl _ | refine Grew.drew ?_ | refine Grew.drewN ?_ _ | refine Grew.alloc ?_ _)))) HLEN.out (Grew.size (Grew.trans HG.out (Grew.trans GQ.out (by repeat (with_reducible first | exact Grew.refl _ | refine Grew.drew ?_ | refine Grew.drewN ?_ _ | refine Grew.alloc ?_ _)))))).mono ?_; rintro e w8 ⟨rfl, h1, h2, h3⟩; have HST := Lib.hid (pg_step (Grew.trans HG.out (Grew.trans GQ.out (by repeat (with_reducible first | exact Grew.refl _ | refine Grew.drew ?_ | refine Grew.drewN ?_ _ | refine Grew.alloc ?_ _)))) (PgKept.trans HK.out (kept_grew (Grew.trans GQ.out (by repeat (with_reducible first | exact Grew.refl _ | refine Grew.drew ?_ | refine Grew.drewN ?_ _ | refine Grew.alloc ?_ _))))) (heap_keepI (Grew.trans GQ.out (by repeat (with_reducible first | exact Grew.refl _ | refine Grew.drew ?_ | refine Grew.drewN ?_ _ | refine Grew.alloc ?_ _))) HX.out) hkb (by decide) h1 rfl h2 h3); have HSW := Lib.hid (fun W (hW : Grew w8 W) => (four_cells (heap_keepI hW HST.out.2.2.2)).1.2.2.2); clear h1 h2 h3))
      obtain ⟨HP3, HG3, HK3, HX3⟩ := HST.out
      replace HP := Lib.hid HP3
      replace HG := Lib.hid HG3
      replace HK := Lib.hid HK3
      replace HX := Lib.hid HX3
      clear HLEN HST HSW HP3 HG3 HK3 HX3 x0 x1 x2 x3 GQ
      obtain ⟨y4, hy4⟩ : ∃ y, y = y3 ++ ((⟨#[58, 32]⟩ : ByteArray) ++ rt ++ (⟨#[10]⟩ : ByteArray)).data.toList := ⟨_, rfl⟩
      rw [← hy4] at HP
      have by4 : y4.length ≤ 1400000 := by
        rw [hy4, List.length_append]
        exact Nat.le_trans (Nat.add_le_add by3 hs6) (by decide)
      have HEy4 := Lib.hid hy4
      clear hy4
      obtain ⟨⟨x0, x1, x2, x3⟩, -⟩ := four_cells HX.out
      go_wp2
      go_end0
      refine ⟨rfl, ?_, HG.out, HK.out⟩
      have hy := HEy4.out
      rw [HEy3.out] at hy
      rw [HEy1.out] at hy
      have hr := HRES.out
      simp only [str_data, List.append_assoc] at hy hr
      have hp := HP.out
      rw [hy] at hp
      rw [← hr]
      simpa [List.append_assoc] using hp
  | false =>
    replace HRES := Lib.hid (by have h := HRES.out; rw [if_neg (by decide)] at h; exact h)
    go_wp2_with fail
    have HLEN := Lib.hid (show (Lib.byteCells y1).length + ((⟨#[32, 40]⟩ : ByteArray) ++ vl ++ (⟨#[41]⟩ : ByteArray)).size ≤ 140737488355328 by rw [Lib.byteCells_length]; exact Nat.le_trans (Nat.add_le_add by1 hs3) (by decide))
    go_region_held3 (fun W => W.cell? ⟨X, 2, none⟩ = some (.string vl)) (first | exact HSW.out _ (by repeat (with_reducible first | exact Grew.refl _ | refine Grew.drew ?_ | refine Grew.drewN ?_ _ | refine Grew.alloc ?_ _)) | exact keep_cell (by repeat (with_reducible first | exact Grew.refl _ | exact GQ.out | refine Grew.drew ?_ | refine Grew.drewN ?_ _ | refine Grew.alloc ?_ _)) x2) ((go_at_call 127; with_reducible refine (bWrite _ b _ ((⟨#[32, 40]⟩ : ByteArray) ++ vl ++ (⟨#[41]⟩ : ByteArray)) _ (IsPg.later HP.out (by repeat (with_reducible first | exact Grew.refl _ | refine Grew.drew ?_ | refine Grew.drewN ?_ _ | refine Grew.alloc ?_ _))) HLEN.out (Grew.size (Grew.trans HG.out (by repeat (with_reducible first | exact Grew.refl _ | refine Grew.drew ?_ | refine Grew.drewN ?_ _ | refine Grew.alloc ?_ _))))).mono ?_; rintro e w4 ⟨rfl, h1, h2, h3⟩; have HST := Lib.hid (pg_step (Grew.trans HG.out (by repeat (with_reducible first | exact Grew.refl _ | refine Grew.drew ?_ | refine Grew.drewN ?_ _ | refine Grew.alloc ?_ _))) (PgKept.trans HK.out (kept_grew (by repeat (with_reducible first | exact Grew.refl _ | refine Grew.drew ?_ | refine Grew.drewN ?_ _ | refine Grew.alloc ?_ _)))) (heap_keepI (by repeat (with_reducible first | exact Grew.refl _ | refine Grew.drew ?_ | refine Grew.drewN ?_ _ | refine Grew.alloc ?_ _)) HX.out) hkb (by decide) h1 rfl h2 h3); have HSW := Lib.hid (fun W (hW : Grew w4 W) => (four_cells (heap_keepI hW HST.out.2.2.2)).1.2.2.1); clear h1 h2 h3))
    obtain ⟨HP2, HG2, HK2, HX2⟩ := HST.out
    replace HP := Lib.hid HP2
    replace HG := Lib.hid HG2
    replace HK := Lib.hid HK2
    replace HX := Lib.hid HX2
    clear HLEN HST HSW HP2 HG2 HK2 HX2 x0 x1 x2 x3
    obtain ⟨y2, hy2⟩ : ∃ y, y = y1 ++ ((⟨#[32, 40]⟩ : ByteArray) ++ vl ++ (⟨#[41]⟩ : ByteArray)).data.toList := ⟨_, rfl⟩
    rw [← hy2] at HP
    have by2 : y2.length ≤ 1200000 := by
      rw [hy2, List.length_append]
      exact Nat.le_trans (Nat.add_le_add by1 hs3) (by decide)
    have HEy2 := Lib.hid hy2
    clear hy2
    obtain ⟨⟨x0, x1, x2, x3⟩, -⟩ := four_cells HX.out
    by_cases hu : vu = unit
    · have hub : (vu != unit) = false := by simpa using hu
      replace HRES := Lib.hid (by have h := HRES.out; rw [if_pos hu] at h; exact h)
      clear hu KI hs5
      go_wp2_with fail
      have HLEN := Lib.hid (show (Lib.byteCells y2).length + ((⟨#[58, 32]⟩ : ByteArray) ++ rt ++ (⟨#[10]⟩ : ByteArray)).size ≤ 140737488355328 by rw [Lib.byteCells_length]; exact Nat.le_trans (Nat.add_le_add by2 hs6) (by decide))
      go_region_held3 (fun W => W.cell? ⟨X, 3, none⟩ = some (.string vt)) (first | exact HSW.out _ (by repeat (with_reducible first | exact Grew.refl _ | refine Grew.drew ?_ | refine Grew.drewN ?_ _ | refine Grew.alloc ?_ _)) | exact keep_cell (by repeat (with_reducible first | exact Grew.refl _ | exact GQ.out | refine Grew.drew ?_ | refine Grew.drewN ?_ _ | refine Grew.alloc ?_ _)) x3) (first | (go_at_call 129; with_reducible refine (KR.out _ (Grew.trans HG.out (by repeat (with_reducible first | exact Grew.refl _ | refine Grew.drew ?_ | refine Grew.drewN ?_ _ | refine Grew.alloc ?_ _)))).mono ?_; rintro e wi ⟨rfl, gq⟩; have GQ := Lib.hid (show Grew w4 wi from Grew.trans (by repeat (with_reducible first | exact Grew.refl _ | refine Grew.drew ?_ | refine Grew.drewN ?_ _ | refine Grew.alloc ?_ _)) gq); clear gq) | (go_at_call 127; with_reducible refine (bWrite _ b _ ((⟨#[58, 32]⟩ : ByteArray) ++ rt ++ (⟨#[10]⟩ : ByteArray)) _ (IsPg.later HP.out (Grew.trans GQ.out (by repeat (with_reducible first | exact Grew.refl _ | refine Grew.drew ?_ | refine Grew.drewN ?_ _ | refine Grew.alloc ?_ _)))) HLEN.out (Grew.size (Grew.trans HG.out (Grew.trans GQ.out (by repeat (with_reducible first | exact Grew.refl _ | refine Grew.drew ?_ | refine Grew.drewN ?_ _ | refine Grew.alloc ?_ _)))))).mono ?_; rintro e w8 ⟨rfl, h1, h2, h3⟩; have HST := Lib.hid (pg_step (Grew.trans HG.out (Grew.trans GQ.out (by repeat (with_reducible first | exact Grew.refl _ | refine Grew.drew ?_ | refine Grew.drewN ?_ _ | refine Grew.alloc ?_ _)))) (PgKept.trans HK.out (kept_grew (Grew.trans GQ.out (by repeat (with_reducible first | exact Grew.refl _ | refine Grew.drew ?_ | refine Grew.drewN ?_ _ | refine Grew.alloc ?_ _))))) (heap_keepI (Grew.trans GQ.out (by repeat (with_reducible first | exact Grew.refl _ | refine Grew.drew ?_ | refine Grew.drewN ?_ _ | refine Grew.alloc ?_ _))) HX.out) hkb (by decide) h1 rfl h2 h3); have HSW := Lib.hid (fun W (hW : Grew w8 W) => (four_cells (heap_keepI hW HST.out.2.2.2)).1.2.2.2); clear h1 h2 h3))
      obtain ⟨HP3, HG3, HK3, HX3⟩ := HST.out
      replace HP := Lib.hid HP3
      replace HG := Lib.hid HG3
      replace HK := Lib.hid HK3
      replace HX := Lib.hid HX3
      clear HLEN HST HSW HP3 HG3 HK3 HX3 x0 x1 x2 x3 GQ
      obtain ⟨y4, hy4⟩ : ∃ y, y = y2 ++ ((⟨#[58, 32]⟩ : ByteArray) ++ rt ++ (⟨#[10]⟩ : ByteArray)).data.toList := ⟨_, rfl⟩
      rw [← hy4] at HP
      have by4 : y4.length ≤ 1400000 := by
        rw [hy4, List.length_append]
        exact Nat.le_trans (Nat.add_le_add by2 hs6) (by decide)
      have HEy4 := Lib.hid hy4
      clear hy4
      obtain ⟨⟨x0, x1, x2, x3⟩, -⟩ := four_cells HX.out
      go_wp2
      go_end0
      refine ⟨rfl, ?_, HG.out, HK.out⟩
      have hy := HEy4.out
      rw [HEy2.out] at hy
      rw [HEy1.out] at hy
      have hr := HRES.out
      simp only [str_data, List.append_assoc] at hy hr
      have hp := HP.out
      rw [hy] at hp
      rw [← hr]
      simpa [List.append_assoc] using hp
    · have hub : (vu != unit) = true := by simpa using hu
      replace HRES := Lib.hid (by have h := HRES.out; rw [if_neg hu] at h; exact h)
      clear hu
      go_wp2_with fail
      have HLEN := Lib.hid (show (Lib.byteCells y2).length + ((⟨#[32, 102, 114, 111, 109, 32]⟩ : ByteArray) ++ ns).size ≤ 140737488355328 by rw [Lib.byteCells_length]; exact Nat.le_trans (Nat.add_le_add by2 hs5) (by decide))
      go_region_held3 (fun W => W.cell? ⟨X, 0, none⟩ = some (.int .i64 vu)) (first | exact HSW.out _ (by repeat (with_reducible first | exact Grew.refl _ | refine Grew.drew ?_ | refine Grew.drewN ?_ _ | refine Grew.alloc ?_ _)) | exact keep_cell (by repeat (with_reducible first | exact Grew.refl _ | exact GQ.out | refine Grew.drew ?_ | refine Grew.drewN ?_ _ | refine Grew.alloc ?_ _)) x0) (first | (go_at_call 128; with_reducible refine (KI.out _ (Grew.trans HG.out (by repeat (with_reducible first | exact Grew.refl _ | refine Grew.drew ?_ | refine Grew.drewN ?_ _ | refine Grew.alloc ?_ _)))).mono ?_; rintro e wi ⟨rfl, gq⟩; have GQ := Lib.hid (show Grew w4 wi from Grew.trans (by repeat (with_reducible first | exact Grew.refl _ | refine Grew.drew ?_ | refine Grew.drewN ?_ _ | refine Grew.alloc ?_ _)) gq); clear gq) | (go_at_call 127; with_reducible refine (bWrite _ b _ ((⟨#[32, 102, 114, 111, 109, 32]⟩ : ByteArray) ++ ns) _ (IsPg.later HP.out (Grew.trans GQ.out (by repeat (with_reducible first | exact Grew.refl _ | refine Grew.drew ?_ | refine Grew.drewN ?_ _ | refine Grew.alloc ?_ _)))) HLEN.out (Grew.size (Grew.trans HG.out (Grew.trans GQ.out (by repeat (with_reducible first | exact Grew.refl _ | refine Grew.drew ?_ | refine Grew.drewN ?_ _ | refine Grew.alloc ?_ _)))))).mono ?_; rintro e w6 ⟨rfl, h1, h2, h3⟩; have HST := Lib.hid (pg_step (Grew.trans HG.out (Grew.trans GQ.out (by repeat (with_reducible first | exact Grew.refl _ | refine Grew.drew ?_ | refine Grew.drewN ?_ _ | refine Grew.alloc ?_ _)))) (PgKept.trans HK.out (kept_grew (Grew.trans GQ.out (by repeat (with_reducible first | exact Grew.refl _ | refine Grew.drew ?_ | refine Grew.drewN ?_ _ | refine Grew.alloc ?_ _))))) (heap_keepI (Grew.trans GQ.out (by repeat (with_reducible first | exact Grew.refl _ | refine Grew.drew ?_ | refine Grew.drewN ?_ _ | refine Grew.alloc ?_ _))) HX.out) hkb (by decide) h1 rfl h2 h3); have HSW := Lib.hid (fun W (hW : Grew w6 W) => (four_cells (heap_keepI hW HST.out.2.2.2)).1.1); clear h1 h2 h3))
      obtain ⟨HP3, HG3, HK3, HX3⟩ := HST.out
      replace HP := Lib.hid HP3
      replace HG := Lib.hid HG3
      replace HK := Lib.hid HK3
      replace HX := Lib.hid HX3
      clear HLEN HST HSW HP3 HG3 HK3 HX3 x0 x1 x2 x3 GQ
      obtain ⟨y3, hy3⟩ : ∃ y, y = y2 ++ ((⟨#[32, 102, 114, 111, 109, 32]⟩ : ByteArray) ++ ns).data.toList := ⟨_, rfl⟩
      rw [← hy3] at HP
      have by3 : y3.length ≤ 1300000 := by
        rw [hy3, List.length_append]
        exact Nat.le_trans (Nat.add_le_add by2 hs5) (by decide)
      have HEy3 := Lib.hid hy3
      clear hy3
      obtain ⟨⟨x0, x1, x2, x3⟩, -⟩ := four_cells HX.out
      go_wp2_with fail
      have HLEN := Lib.hid (show (Lib.byteCells y3).length + ((⟨#[58, 32]⟩ : ByteArray) ++ rt ++ (⟨#[10]⟩ : ByteArray)).size ≤ 140737488355328 by rw [Lib.byteCells_length]; exact Nat.le_trans (Nat.add_le_add by3 hs6) (by decide))
      go_region_held3 (fun W => W.cell? ⟨X, 3, none⟩ = some (.string vt)) (first | exact HSW.out _ (by repeat (with_reducible first | exact Grew.refl _ | refine Grew.drew ?_ | refine Grew.drewN ?_ _ | refine Grew.alloc ?_ _)) | exact keep_cell (by repeat (with_reducible first | exact Grew.refl _ | exact GQ.out | refine Grew.drew ?_ | refine Grew.drewN ?_ _ | refine Grew.alloc ?_ _)) x3) (first | (go_at_call 129; with_reducible refine (KR.out _ (Grew.trans HG.out (by repeat (with_reducible first | exact Grew.refl _ | refine Grew.drew ?_ | refine Grew.drewN ?_ _ | refine Grew.alloc ?_ _)))).mono ?_; rintro e wi ⟨rfl, gq⟩; have GQ := Lib.hid (show Grew w6 wi from Grew.trans (by repeat (with_reducible first | exact Grew.refl _ | refine Grew.drew ?_ | refine Grew.drewN ?_ _ | refine Grew.alloc ?_ _)) gq); clear gq) | (go_at_call 127; with_reducible refine (bWrite _ b _ ((⟨#[58, 32]⟩ : ByteArray) ++ rt ++ (⟨#[10]⟩ : ByteArray)) _ (IsPg.later HP.out (Grew.trans GQ.out (by repeat (with_reducible first | exact Grew.refl _ | refine Grew.drew ?_ | refine Grew.drewN ?_ _ | refine Grew.alloc ?_ _)))) HLEN.out (Grew.size (Grew.trans HG.out (Grew.trans GQ.out (by repeat (with_reducible first | exact Grew.refl _ | refine Grew.drew ?_ | refine Grew.drewN ?_ _ | refine Grew.alloc ?_ _)))))).mono ?_; rintro e w8 ⟨rfl, h1, h2, h3⟩; have HST := Lib.hid (pg_step (Grew.trans HG.out (Grew.trans GQ.out (by repeat (with_reducible first | exact Grew.refl _ | refine Grew.drew ?_ | refine Grew.drewN ?_ _ | refine Grew.alloc ?_ _)))) (PgKept.trans HK.out (kept_grew (Grew.trans GQ.out (by repeat (with_reducible first | exact Grew.refl _ | refine Grew.drew ?_ | refine Grew.drewN ?_ _ | refine Grew.alloc ?_ _))))) (heap_keepI (Grew.trans GQ.out (by repeat (with_reducible first | exact Grew.refl _ | refine Grew.drew ?_ | refine Grew.drewN ?_ _ | refine Grew.alloc ?_ _))) HX.out) hkb (by decide) h1 rfl h2 h3); have HSW := Lib.hid (fun W (hW : Grew w8 W) => (four_cells (heap_keepI hW HST.out.2.2.2)).1.2.2.2); clear h1 h2 h3))
      obtain ⟨HP4, HG4, HK4, HX4⟩ := HST.out
      replace HP := Lib.hid HP4
      replace HG := Lib.hid HG4
      replace HK := Lib.hid HK4
      replace HX := Lib.hid HX4
      clear HLEN HST HSW HP4 HG4 HK4 HX4 x0 x1 x2 x3 GQ
      obtain ⟨y4, hy4⟩ : ∃ y, y = y3 ++ ((⟨#[58, 32]⟩ : ByteArray) ++ rt ++ (⟨#[10]⟩ : ByteArray)).data.toList := ⟨_, rfl⟩
      rw [← hy4] at HP
      have by4 : y4.length ≤ 1400000 := by
        rw [hy4, List.length_append]
        exact Nat.le_trans (Nat.add_le_add by3 hs6) (by decide)
      have HEy4 := Lib.hid hy4
      clear hy4
      obtain ⟨⟨x0, x1, x2, x3⟩, -⟩ := four_cells HX.out
      go_wp2
      go_end0
      refine ⟨rfl, ?_, HG.out, HK.out⟩
      have hy := HEy4.out
      rw [HEy3.out] at hy
      rw [HEy2.out] at hy
      rw [HEy1.out] at hy
      have hr := HRES.out
      simp only [str_data, List.append_assoc] at hy hr
      have hp := HP.out
      rw [hy] at hp
      rw [← hr]
      simpa [List.append_assoc] using hp
end Go.Proofs.YtjaknioojpgkiaaGreatDoor
