/- Lemmas on what the functions of the program and of the library compute: Lex, Lfw. The conditions stand at each. -/
import Derived.Test.YtafncfomiolmgaaGreatDoorQ21
import Derived.Test.YtafncfomiolmgaaGreatDoorQ27
import Derived.Test.YtafncfomiolmgaaGreatDoorQ28
import Derived.Test.YtafncfomiolmgaaGreatDoorQ13
/- The example of the chapter, few and Few, walked. The conditions: the lists are short. -/
namespace Go.Proofs.YtafncfomiolmgaaGreatDoor
open Go.RowKit

/-- A call that returns a tree. -/
def RetT (t : Tr) (w : World) (e : Ending) (w' : World) : Prop := ∃ rv bv, e = .returned (.agg #[rv, bv]) ∧ TrOk w' rv bv t ∧ Grew w w'
/-- The branches of the example as they are laid. -/
theorem xBr (w : World) (t1 t2 t3 : TypeId) : SlBr (((w.alloc (.cells #[.int .i64 2, .int .i64 5] t1)).alloc (.cells #[.int .i64 9] t2)).alloc (.cells #[.int .i64 1, .int .i64 0, .int .i64 1, .string ⟨#[84, 111, 119, 110]⟩, .string ⟨#[84]⟩, .slice (some ⟨w.heap.size, 0, none⟩) 2 2, .int .i64 2, .int .i64 1, .int .i64 2, .string ⟨#[65, 99, 116, 115]⟩, .string ⟨#[]⟩, .slice (some ⟨w.heap.size + 1, 0, none⟩) 1 1, .int .i64 5, .int .i64 1, .int .i64 2, .string ⟨#[80, 108, 97, 110, 115]⟩, .string ⟨#[]⟩, .slice none 0 0, .int .i64 9, .int .i64 2, .int .i64 3, .string ⟨#[77, 105, 108, 108]⟩, .string ⟨#[84, 45, 57]⟩, .slice none 0 0] t3)) (.slice (some ⟨w.heap.size + 1 + 1, 0, none⟩) 4 4) xB := by
  refine ⟨[⟨1, 0, 1, ⟨#[84, 111, 119, 110]⟩, ⟨#[84]⟩, .slice (some ⟨w.heap.size, 0, none⟩) 2 2⟩, ⟨2, 1, 2, ⟨#[65, 99, 116, 115]⟩, ⟨#[]⟩, .slice (some ⟨w.heap.size + 1, 0, none⟩) 1 1⟩, ⟨5, 1, 2, ⟨#[80, 108, 97, 110, 115]⟩, ⟨#[]⟩, .slice none 0 0⟩, ⟨9, 2, 3, ⟨#[77, 105, 108, 108]⟩, ⟨#[84, 45, 57]⟩, .slice none 0 0⟩], ?_, rfl, fun i h h' => ?_⟩
  · have := Rd.fresh ((w.alloc (.cells #[.int .i64 2, .int .i64 5] t1)).alloc (.cells #[.int .i64 9] t2)) t3 6 4 [.int .i64 1, .int .i64 0, .int .i64 1, .string ⟨#[84, 111, 119, 110]⟩, .string ⟨#[84]⟩, .slice (some ⟨w.heap.size, 0, none⟩) 2 2, .int .i64 2, .int .i64 1, .int .i64 2, .string ⟨#[65, 99, 116, 115]⟩, .string ⟨#[]⟩, .slice (some ⟨w.heap.size + 1, 0, none⟩) 1 1, .int .i64 5, .int .i64 1, .int .i64 2, .string ⟨#[80, 108, 97, 110, 115]⟩, .string ⟨#[]⟩, .slice none 0 0, .int .i64 9, .int .i64 2, .int .i64 3, .string ⟨#[77, 105, 108, 108]⟩, .string ⟨#[84, 45, 57]⟩, .slice none 0 0] rfl (by decide)
    rw [size_allocB, size_allocB] at this
    simpa [SlB, BrC.cells] using this
  · have hi : i = 0 ∨ i = 1 ∨ i = 2 ∨ i = 3 := by
      have h4 : i < 4 := h
      omega
    rcases hi with rfl | rfl | rfl | rfl
    · refine ⟨rfl, ?_⟩
      have := Rd.fresh w t1 1 2 [.int .i64 2, .int .i64 5] rfl (by decide)
      exact Rd.mono this (((Grew.refl _).alloc _).alloc _)
    · refine ⟨rfl, ?_⟩
      have := Rd.fresh (w.alloc (.cells #[.int .i64 2, .int .i64 5] t1)) t2 1 1 [.int .i64 9] rfl (by decide)
      rw [size_allocB] at this
      exact Rd.mono this ((Grew.refl _).alloc _)
    · exact ⟨rfl, SlI.nil _⟩
    · exact ⟨rfl, SlI.nil _⟩
set_option maxHeartbeats 4000000 in
set_option maxRecDepth 100000 in
theorem exTr (w : World) : Calls Tryz.prog 37 #[] w (RetT xT w) := by
  have hb := xBr ((w.alloc (.cells [.slice (some ⟨w.heap.size + 1, 0, none⟩) 1 1, .slice (some ⟨w.heap.size + 1 + 1 + 1 + 1, 0, none⟩) 4 4].toArray 35)).alloc (.cells #[.int .i64 1] 3)) 3 3 53
  rw [size_allocB, size_allocB] at hb
  have hr := Rd.fresh (w.alloc (.cells [.slice (some ⟨w.heap.size + 1, 0, none⟩) 1 1, .slice (some ⟨w.heap.size + 1 + 1 + 1 + 1, 0, none⟩) 4 4].toArray 35)) 3 1 1 [.int .i64 1] rfl (by decide)
  rw [size_allocB] at hr
  have hT : TrOk (((((w.alloc (.cells [.slice (some ⟨w.heap.size + 1, 0, none⟩) 1 1, .slice (some ⟨w.heap.size + 1 + 1 + 1 + 1, 0, none⟩) 4 4].toArray 35)).alloc (.cells #[.int .i64 1] 3)).alloc (.cells #[.int .i64 2, .int .i64 5] 3)).alloc (.cells #[.int .i64 9] 3)).alloc (.cells #[.int .i64 1, .int .i64 0, .int .i64 1, .string ⟨#[84, 111, 119, 110]⟩, .string ⟨#[84]⟩, .slice (some ⟨w.heap.size + 1 + 1, 0, none⟩) 2 2, .int .i64 2, .int .i64 1, .int .i64 2, .string ⟨#[65, 99, 116, 115]⟩, .string ⟨#[]⟩, .slice (some ⟨w.heap.size + 1 + 1 + 1, 0, none⟩) 1 1, .int .i64 5, .int .i64 1, .int .i64 2, .string ⟨#[80, 108, 97, 110, 115]⟩, .string ⟨#[]⟩, .slice none 0 0, .int .i64 9, .int .i64 2, .int .i64 3, .string ⟨#[77, 105, 108, 108]⟩, .string ⟨#[84, 45, 57]⟩, .slice none 0 0] 53)) (.slice (some ⟨w.heap.size + 1, 0, none⟩) 1 1) (.slice (some ⟨w.heap.size + 1 + 1 + 1 + 1, 0, none⟩) 4 4) xT := ⟨Rd.mono hr ((((Grew.refl _).alloc _).alloc _).alloc _), hb⟩
  have hG : Grew w (((((w.alloc (.cells [.slice (some ⟨w.heap.size + 1, 0, none⟩) 1 1, .slice (some ⟨w.heap.size + 1 + 1 + 1 + 1, 0, none⟩) 4 4].toArray 35)).alloc (.cells #[.int .i64 1] 3)).alloc (.cells #[.int .i64 2, .int .i64 5] 3)).alloc (.cells #[.int .i64 9] 3)).alloc (.cells #[.int .i64 1, .int .i64 0, .int .i64 1, .string ⟨#[84, 111, 119, 110]⟩, .string ⟨#[84]⟩, .slice (some ⟨w.heap.size + 1 + 1, 0, none⟩) 2 2, .int .i64 2, .int .i64 1, .int .i64 2, .string ⟨#[65, 99, 116, 115]⟩, .string ⟨#[]⟩, .slice (some ⟨w.heap.size + 1 + 1 + 1, 0, none⟩) 1 1, .int .i64 5, .int .i64 1, .int .i64 2, .string ⟨#[80, 108, 97, 110, 115]⟩, .string ⟨#[]⟩, .slice none 0 0, .int .i64 9, .int .i64 2, .int .i64 3, .string ⟨#[77, 105, 108, 108]⟩, .string ⟨#[84, 45, 57]⟩, .slice none 0 0] 53)) := (((((Grew.refl w).alloc _).alloc _).alloc _).alloc _).alloc _
  have q0 := new_cell (w := w) (show Grew (w.alloc (.cells [.slice (some ⟨w.heap.size + 1, 0, none⟩) 1 1, .slice (some ⟨w.heap.size + 1 + 1 + 1 + 1, 0, none⟩) 4 4].toArray 35)) (((((w.alloc (.cells [.slice (some ⟨w.heap.size + 1, 0, none⟩) 1 1, .slice (some ⟨w.heap.size + 1 + 1 + 1 + 1, 0, none⟩) 4 4].toArray 35)).alloc (.cells #[.int .i64 1] 3)).alloc (.cells #[.int .i64 2, .int .i64 5] 3)).alloc (.cells #[.int .i64 9] 3)).alloc (.cells #[.int .i64 1, .int .i64 0, .int .i64 1, .string ⟨#[84, 111, 119, 110]⟩, .string ⟨#[84]⟩, .slice (some ⟨w.heap.size + 1 + 1, 0, none⟩) 2 2, .int .i64 2, .int .i64 1, .int .i64 2, .string ⟨#[65, 99, 116, 115]⟩, .string ⟨#[]⟩, .slice (some ⟨w.heap.size + 1 + 1 + 1, 0, none⟩) 1 1, .int .i64 5, .int .i64 1, .int .i64 2, .string ⟨#[80, 108, 97, 110, 115]⟩, .string ⟨#[]⟩, .slice none 0 0, .int .i64 9, .int .i64 2, .int .i64 3, .string ⟨#[77, 105, 108, 108]⟩, .string ⟨#[84, 45, 57]⟩, .slice none 0 0] 53)) from ((((Grew.refl _).alloc _).alloc _).alloc _).alloc _) 0 _ rfl
  have q1 := new_cell (w := w) (show Grew (w.alloc (.cells [.slice (some ⟨w.heap.size + 1, 0, none⟩) 1 1, .slice (some ⟨w.heap.size + 1 + 1 + 1 + 1, 0, none⟩) 4 4].toArray 35)) (((((w.alloc (.cells [.slice (some ⟨w.heap.size + 1, 0, none⟩) 1 1, .slice (some ⟨w.heap.size + 1 + 1 + 1 + 1, 0, none⟩) 4 4].toArray 35)).alloc (.cells #[.int .i64 1] 3)).alloc (.cells #[.int .i64 2, .int .i64 5] 3)).alloc (.cells #[.int .i64 9] 3)).alloc (.cells #[.int .i64 1, .int .i64 0, .int .i64 1, .string ⟨#[84, 111, 119, 110]⟩, .string ⟨#[84]⟩, .slice (some ⟨w.heap.size + 1 + 1, 0, none⟩) 2 2, .int .i64 2, .int .i64 1, .int .i64 2, .string ⟨#[65, 99, 116, 115]⟩, .string ⟨#[]⟩, .slice (some ⟨w.heap.size + 1 + 1 + 1, 0, none⟩) 1 1, .int .i64 5, .int .i64 1, .int .i64 2, .string ⟨#[80, 108, 97, 110, 115]⟩, .string ⟨#[]⟩, .slice none 0 0, .int .i64 9, .int .i64 2, .int .i64 3, .string ⟨#[77, 105, 108, 108]⟩, .string ⟨#[84, 45, 57]⟩, .slice none 0 0] 53)) from ((((Grew.refl _).alloc _).alloc _).alloc _).alloc _) 1 _ rfl
  have HT := Lib.hid hT
  have HG := Lib.hid hG
  clear hb hr hT hG
  go_enter Tryz.func37, Tryz.ntmps37
  go_wp2_with fail
  refine bodyPost_ret (v := .agg #[.slice (some ⟨w.heap.size + 1, 0, none⟩) 1 1, .slice (some ⟨w.heap.size + 1 + 1 + 1 + 1, 0, none⟩) 4 4]) (by simp [results, Tryz.results37, go_sem, q0, q1]) rfl ?_
  exact ⟨_, _, rfl, HT.out, HG.out⟩
end Go.Proofs.YtafncfomiolmgaaGreatDoor

/- few and Few, walked. The condition: none but what a slice can be. -/
namespace Go.Proofs.YtafncfomiolmgaaGreatDoor
open Go.RowKit

/-- A small operation. -/
def FewO (o : Opn) : Prop := o.title.size ≤ 100 ∧ o.mark.size ≤ 100
set_option maxHeartbeats 2000000 in
theorem few21_any (o : Opn) (w : World) : Calls Tryz.prog 12 #[o.agg] w (YesIf (FewO o) w) := by
  obtain ⟨i, d, k, u, p, b, l, tt, m, x9, x10, x11⟩ := o
  unfold Opn.agg
  dsimp only
  by_cases h1 : tt.size ≤ 100
  · have h1z : (tt.size : Int) ≤ 100 := by omega
    by_cases h2 : m.size ≤ 100
    · have h2z : (m.size : Int) ≤ 100 := by omega
      go_enter Tryz.func12, Tryz.ntmps12
      go_wp2
      go_ret
      exact YesIf.yes ⟨h1, h2⟩ ((Grew.refl w).alloc _)
    · have h2z : ¬ (m.size : Int) ≤ 100 := by omega
      go_enter Tryz.func12, Tryz.ntmps12
      go_wp2
      go_ret
      exact YesIf.no ((Grew.refl w).alloc _)
  · have h1z : ¬ (tt.size : Int) ≤ 100 := by omega
    go_enter Tryz.func12, Tryz.ntmps12
    go_wp2
    go_ret
    exact YesIf.no ((Grew.refl w).alloc _)
set_option maxHeartbeats 2000000 in
theorem fewLaw (t : Tr) (o : Opn) (rv bv : Value) (w : World) (hr : SlI w rv t.roots) (hv : SlBr w bv t.brs) : Calls Tryz.prog 17 #[.agg #[rv, bv], o.agg] w (YesIf (FewTM t.roots t.brs ∧ FewO o) w) := by
  have KT := Lib.hid (fun W (hW : Grew w W) => few19_m t.roots t.brs rv bv W (hr.mono hW) (hv.mono hW))
  have kO := fun W => few21_any o W
  obtain ⟨Ar, cr, rfl, -⟩ := hr.open_
  obtain ⟨Ab, cb, rfl, -⟩ := hv.open_
  have HB := Lib.hid (fun (r b : Value) W (g : Grew ((w.alloc (.cells [r, b].toArray 35)).alloc (.cells o.cells.toArray 25)) W) => opn_all o g)
  clear hr hv
  generalize hFO : FewO o = FO at kO ⊢
  obtain ⟨i, d, k, u, p, b, l, tt, m, x9, x10, x11⟩ := o
  unfold Opn.agg at kO ⊢
  unfold Opn.cells at HB
  dsimp only at kO HB ⊢
  have KO := Lib.hid kO
  clear kO hFO
  go_enter Tryz.func17, Tryz.ntmps17
  go_wp2_with fail
  refine (KT.out _ (((Grew.refl w).alloc _).alloc _)).mono ?_
  rintro e w1 ⟨q, rfl, hq, g1⟩
  have HQ := Lib.hid hq
  have HG1 := Lib.hid ((((Grew.refl w).alloc _).alloc _).trans g1)
  obtain ⟨a0, a1, a2, a3, a4, a5, a6, a7, a8, a9, a10, a11⟩ := HB.out _ _ w1 g1
  rw [size_allocB] at a0 a1 a2 a3 a4 a5 a6 a7 a8 a9 a10 a11
  clear hq g1
  dsimp only
  cases q
  · go_wp2
    go_ret
    exact YesIf.no HG1.out
  · have HT := Lib.hid (HQ.out rfl)
    clear HQ
    go_wp2_with fail
    refine (KO.out _).mono ?_
    rintro e w2 ⟨q2, rfl, hq2, g2⟩
    have HG2 := Lib.hid (HG1.out.trans g2)
    have HQ2 := Lib.hid hq2
    clear hq2 g2
    dsimp only
    cases q2
    · go_wp2
      go_ret
      exact YesIf.no HG2.out
    · have HF2 := Lib.hid (HQ2.out rfl)
      clear HQ2
      go_wp2
      go_ret
      exact YesIf.yes ⟨HT.out, HF2.out⟩ HG2.out
end Go.Proofs.YtafncfomiolmgaaGreatDoor
