/- Lemmas on what the functions of the program and of the library compute: Aw. The conditions stand at each. -/
import Derived.Test.YtfghbendiofbeaaGreatDoorQ23
/- The example of the chapter, walked: it answers yes. The condition: the library's own variables hold what they must. -/
namespace Go.Proofs.YtfghbendiofbeaaGreatDoor
open Go.RowKit

/-- The authorities of the example as they are laid. -/
theorem exAu (w : World) (t1 t2 : TypeId) : SlAu ((w.alloc (.cells #[.string ⟨#[120]⟩, .int .i64 100, .int .i64 300] t1)).alloc (.cells #[.int .i64 4, .int .i64 2, .int .i64 100, .int .i64 300, .slice (some ⟨w.heap.size, 0, none⟩) 1 1, .slice none 0 0] t2)) (.slice (some ⟨w.heap.size + 1, 0, none⟩) 1 1) exA := by
  refine ⟨[⟨4, 2, 100, 300, .slice (some ⟨w.heap.size, 0, none⟩) 1 1, .slice none 0 0⟩], ?_, rfl, fun i h h' => ?_⟩
  · have := Rd.fresh (w.alloc (.cells #[.string ⟨#[120]⟩, .int .i64 100, .int .i64 300] t1)) t2 6 1 [.int .i64 4, .int .i64 2, .int .i64 100, .int .i64 300, .slice (some ⟨w.heap.size, 0, none⟩) 1 1, .slice none 0 0] rfl (by decide)
    simpa [SlA, AuC.cells] using this
  · have : i = 0 := by simpa using h
    subst this
    refine ⟨rfl, ?_, SlI.nil _⟩
    have := Rd.fresh w t1 3 1 [.string ⟨#[120]⟩, .int .i64 100, .int .i64 300] rfl (by decide)
    exact Rd.mono this ((Grew.refl _).alloc _)
/-- The branches of the example as they are laid. -/
theorem exBr (w : World) (t1 t2 : TypeId) : SlBr ((w.alloc (.cells #[.int .i64 2] t1)).alloc (.cells #[.int .i64 1, .int .i64 0, .int .i64 1, .string ⟨#[120]⟩, .string ⟨#[]⟩, .slice (some ⟨w.heap.size, 0, none⟩) 1 1, .int .i64 2, .int .i64 1, .int .i64 3, .string ⟨#[121]⟩, .string ⟨#[]⟩, .slice none 0 0] t2)) (.slice (some ⟨w.heap.size + 1, 0, none⟩) 2 2) exB := by
  refine ⟨[⟨1, 0, 1, ⟨#[120]⟩, ⟨#[]⟩, .slice (some ⟨w.heap.size, 0, none⟩) 1 1⟩, ⟨2, 1, 3, ⟨#[121]⟩, ⟨#[]⟩, .slice none 0 0⟩], ?_, rfl, fun i h h' => ?_⟩
  · have := Rd.fresh (w.alloc (.cells #[.int .i64 2] t1)) t2 6 2 [.int .i64 1, .int .i64 0, .int .i64 1, .string ⟨#[120]⟩, .string ⟨#[]⟩, .slice (some ⟨w.heap.size, 0, none⟩) 1 1, .int .i64 2, .int .i64 1, .int .i64 3, .string ⟨#[121]⟩, .string ⟨#[]⟩, .slice none 0 0] rfl (by decide)
    simpa [SlB, BrC.cells] using this
  · have : i = 0 ∨ i = 1 := by simp at h; omega
    rcases this with rfl | rfl
    · refine ⟨rfl, ?_⟩
      have := Rd.fresh w t1 1 1 [.int .i64 2] rfl (by decide)
      exact Rd.mono this ((Grew.refl _).alloc _)
    · exact ⟨rfl, SlI.nil _⟩
theorem exFewB : FewBr exB := ⟨by decide, fun i h => by
  have : i = 0 ∨ i = 1 := by simp [exB] at h; omega
  rcases this with rfl | rfl <;> simp [exB]⟩
theorem size_alloc_own (w : World) (o : Obj) : (w.alloc o).heap.size = w.heap.size + 1 := by simp
/-- A slice reads as before where a cell of another block is written. -/
theorem slR_set {W : World} {v : Value} {l : List Rel} {p : Addr} (u : Value) (h : SlR W v l) (n : Nat) (hf : Fresh n v) (hp : p.block < n) : SlR (W.setCell p u) v l := rd_set u h (fun e => by have := hf _ e; omega)
theorem addE (l : List Rel) (u r a f n : Int) (res : List Rel × Int) (hres : addR exA l ⟨u, r, a, f, n⟩ = res) (av lv : Value) (W : World) (hE : Env W) (ha : SlAu W av exA) (hl : SlR W lv l) (hll : l.length ≤ 1000000) :
    Calls Tryz.prog 19 #[av, lv, .agg #[.int .i64 u, .int .i64 r, .int .i64 a, .int .i64 f, .int .i64 n]] W (RetRel res W) := hres ▸ rAdd exA l ⟨u, r, a, f, n⟩ av lv W hE ha exFew hl hll
theorem inhE (rv bv av lv : Value) (W : World) (hE : Env W) (hr : SlI W rv [1]) (hb : SlBr W bv exB) (ha : SlAu W av exA) (hl : SlR W lv exM) :
    Calls Tryz.prog 30 #[.agg #[rv, bv], av, lv, .int .i64 2, .int .i64 1, .int .i64 120] W (RetInh (([4], 1), 0) W) := ex10 ▸ rInh [1] exB exA exM 2 1 120 rv bv av lv W hE hr hb exFewB (by decide) ha exFew hl (by decide)
theorem holdE (av lv : Value) (W : World) (hE : Env W) (ha : SlAu W av exA) (hl : SlR W lv exM) :
    Calls Tryz.prog 24 #[av, lv, .int .i64 2, .int .i64 1, .int .i64 120] W (RetRow ([], 0) W) := ex6 ▸ rHolders exA exM 2 1 120 av lv W hE ha exFew hl (by decide)
theorem unitE (av lv : Value) (W : World) (hE : Env W) (ha : SlAu W av exA) (hl : SlR W lv exM) :
    Calls Tryz.prog 26 #[av, lv, .int .i64 4, .int .i64 120] W (RetRow ([1], 0) W) := ex7 ▸ rUnits exA exM 4 120 av lv W hE ha exFew hl (by decide)
def exText : ByteArray := ⟨#[49, 32, 99, 114, 101, 97, 116, 111, 114, 32, 52, 32, 102, 114, 111, 109, 32, 49, 48, 48, 32, 117, 110, 116, 105, 108, 32, 50, 48, 48]⟩
theorem textE (W : World) (hE : Env W) : Calls Tryz.prog 17 #[.agg #[.int .i64 1, .int .i64 1, .int .i64 4, .int .i64 100, .int .i64 200]] W fun e w' => e = .returned (.tuple #[.string ⟨#[49, 32, 99, 114, 101, 97, 116, 111, 114, 32, 52, 32, 102, 114, 111, 109, 32, 49, 48, 48, 32, 117, 110, 116, 105, 108, 32, 50, 48, 48]⟩, .int .i64 0]) ∧ Grew W w' := by
  have := rText exX W hE
  rw [ex11] at this
  exact this
def RetThree (w : World) (e : Ending) (w' : World) : Prop := ∃ A c, e = .returned (.tuple #[.slice A 3 c, .int .i64 0]) ∧ Grew w w'
theorem endE (av lv : Value) (W : World) (hE : Env W) (ha : SlAu W av exA) (hl : SlR W lv exM) :
    Calls Tryz.prog 21 #[av, lv, .agg #[.int .i64 1, .int .i64 1, .int .i64 4, .int .i64 100, .int .i64 200], .int .i64 150] W (RetThree W) := by
  refine (rEnd exA exM exX 150 av lv W hE ha exFew hl (by decide)).mono ?_
  rintro e w' ⟨v, rfl, hs, hg, -⟩
  obtain ⟨A, c, rfl, -, -, -⟩ := hs.open_
  rw [ex8.1, ex8.2]
  exact ⟨A, c, rfl, hg⟩
theorem checkE (av lv : Value) (W : World) (hE : Env W) (ha : SlAu W av exA) (hl : SlR W lv exM) :
    Calls Tryz.prog 13 #[av, lv] W fun e w' => e = .returned (.tuple #[.int .i64 (-1), .int .i64 0]) ∧ Grew W w' := by
  have := rCheck exA exM av lv W hE ha exFew hl
  rw [ex9] at this
  exact this
theorem eqE (n : Int) (v : Value) (w0 W : World) (t : TypeId) (h : SlI w0 v [n]) (hg : Grew w0 W) : Calls Tryz.prog 28 #[v, .slice (some ⟨W.heap.size, 0, none⟩) 1 1] (W.alloc (.cells #[.int .i64 n] t)) fun e w' => e = .returned (.bool true) ∧ Grew (W.alloc (.cells #[.int .i64 n] t)) w' := by
  have := equalI [n] [n] v _ _ (h.mono (hg.alloc (.cells #[.int .i64 n] t))) (Rd.fresh W t 1 1 [.int .i64 n] rfl (by decide))
  simpa using this
set_option maxHeartbeats 16000000 in
set_option maxRecDepth 100000 in
theorem awake26 (w : World) (hE : Env w) : Calls Tryz.prog 11 #[] w fun e w' => e = .returned (.bool true) ∧ Grew w w' := by
  have HE := Lib.hid hE
  have HA := Lib.hid (exAu (w.alloc (.cells #[.int .i64 100, .int .i64 300] 25)) 69 72)
  clear hE
  go_enter Tryz.func11, Tryz.ntmps11
  go_wp2_with fail
  simp only [size_alloc_own] at HA
  generalize hav : Value.slice (some ⟨w.heap.size + 1 + 1, 0, none⟩) 1 1 = av at HA ⊢
  refine (addE [] 1 1 4 100 200 _ ex1 _ _ _ (HE.out.mono ((((Grew.refl w).alloc _).alloc _).alloc _ |>.alloc _)) (HA.out.mono ((Grew.refl _).alloc _)) (SlR.nil _) (by decide)).mono ?_
  rintro e w1 ⟨v1, rfl, s1, g1, -⟩
  have b0 := new_cell g1 0 _ rfl
  have b1 := new_cell g1 1 _ rfl
  have b2 := new_cell g1 2 _ rfl
  have b3 := new_cell g1 3 _ rfl
  have b4 := new_cell g1 4 _ rfl
  have HA1 := Lib.hid (HA.out.mono (((Grew.refl _).alloc _).trans g1))
  have HG1 := Lib.hid ((((Grew.refl w).alloc _).alloc _).alloc _ |>.alloc _ |>.trans g1)
  have HS1 := Lib.hid s1
  simp only [size_alloc_own] at b0 b1 b2 b3 b4
  generalize w.heap.size + 1 + 1 + 1 = X3 at b0 b1 b2 b3 b4 ⊢
  clear g1 s1 HA
  dsimp only
  go_wp2_with fail
  refine (addE [exX] 1 1 4 150 300 _ ex2 _ _ _ (HE.out.mono (HG1.out.alloc _)) (HA1.out.mono ((Grew.refl _).alloc _)) (HS1.out.mono ((Grew.refl _).alloc _)) (by decide)).mono ?_
  rintro e w2 ⟨v2, rfl, -, g2, -⟩
  have c0 := new_cell g2 0 _ rfl
  have c1 := new_cell g2 1 _ rfl
  have c2 := new_cell g2 2 _ rfl
  have c3 := new_cell g2 3 _ rfl
  have c4 := new_cell g2 4 _ rfl
  have z3 : w2.frozen? ⟨w1.heap.size, 3, none⟩ = false := (g2.frozen (by simp)).trans (by simp)
  have HZ2 := Lib.hid (show ∀ j, w2.frozen? ⟨w1.heap.size, j, none⟩ = false from fun j => (g2.frozen (by simp)).trans (by simp))
  have HG12 := Lib.hid (((Grew.refl w1).alloc _).trans g2)
  have HX1 := Lib.hid (And.intro b0 (And.intro b1 (And.intro b2 (And.intro b3 b4))))
  clear g2 b0 b1 b2 b3 b4
  dsimp only
  go_wp2_with fail
  have hY2 : w1.heap.size < w2.heap.size := World.block_lt_of_cell? w2 _ c0
  have hG13 : Grew w1 (w2.setCell ⟨w1.heap.size, 3, none⟩ (.int .i64 200)) := HG12.out.setCell (Nat.le_refl _) _
  refine (addE [exX] 1 1 4 200 300 _ ex3 _ _ _ (HE.out.mono (HG1.out.trans hG13)) (HA1.out.mono hG13) (HS1.out.mono hG13) (by decide)).mono ?_
  rintro e w3 ⟨v3, rfl, s3, g3, f3⟩
  have d0 := keep_cell g3 ((World.cell?_setCell_other _ _ _ _ (by simp)).trans c0)
  have d1 := keep_cell g3 ((World.cell?_setCell_other _ _ _ _ (by simp)).trans c1)
  have d2 := keep_cell g3 ((World.cell?_setCell_other _ _ _ _ (by simp)).trans c2)
  have d3 := keep_cell g3 (World.cell?_setCell_same' w2 ⟨w1.heap.size, 3, none⟩ (.int .i64 200) (by rw [c3]; rfl))
  have d4 := keep_cell g3 ((World.cell?_setCell_other _ _ _ _ (by simp)).trans c4)
  have hz3 : ∀ j, w3.frozen? ⟨w1.heap.size, j, none⟩ = false := fun j => (g3.frozen (by simp; omega)).trans (by simp [HZ2.out])
  have e0 := hz3 0
  have e1 := hz3 1
  have e2 := hz3 2
  have e3 := hz3 3
  have e4 := hz3 4
  have HZ3 := Lib.hid hz3
  have HG3 := Lib.hid (hG13.trans g3)
  have HS3 := Lib.hid s3
  have HF3 := Lib.hid (f3.le (show w2.heap.size ≤ _ by simp))
  clear g3 s3 f3 hG13 c0 c1 c2 c3 c4 z3 hz3 HZ2
  dsimp only
  go_wp2_with fail
  have hG14 : Grew w1 (((((w3.setCell ⟨w1.heap.size, 0, none⟩ (.int .i64 1)).setCell ⟨w1.heap.size, 1, none⟩ (.int .i64 4)).setCell ⟨w1.heap.size, 2, none⟩ (.int .i64 4)).setCell ⟨w1.heap.size, 3, none⟩ (.int .i64 100)).setCell ⟨w1.heap.size, 4, none⟩ (.int .i64 1048576)) := ((((HG3.out.setCell (Nat.le_refl _) _).setCell (Nat.le_refl _) _).setCell (Nat.le_refl _) _).setCell (Nat.le_refl _) _).setCell (Nat.le_refl _) _
  have hS34 : SlR (((((w3.setCell ⟨w1.heap.size, 0, none⟩ (.int .i64 1)).setCell ⟨w1.heap.size, 1, none⟩ (.int .i64 4)).setCell ⟨w1.heap.size, 2, none⟩ (.int .i64 4)).setCell ⟨w1.heap.size, 3, none⟩ (.int .i64 100)).setCell ⟨w1.heap.size, 4, none⟩ (.int .i64 1048576)) v3 [exX, exP] :=
    slR_set _ (slR_set _ (slR_set _ (slR_set _ (slR_set _ HS3.out _ HF3.out hY2) _ HF3.out hY2) _ HF3.out hY2) _ HF3.out hY2) _ HF3.out hY2
  have q0 : (((((w3.setCell ⟨w1.heap.size, 0, none⟩ (.int .i64 1)).setCell ⟨w1.heap.size, 1, none⟩ (.int .i64 4)).setCell ⟨w1.heap.size, 2, none⟩ (.int .i64 4)).setCell ⟨w1.heap.size, 3, none⟩ (.int .i64 100)).setCell ⟨w1.heap.size, 4, none⟩ (.int .i64 1048576)).cell? ⟨w1.heap.size, 0, none⟩ = some (.int .i64 1) := by go_simp
  have q1 : (((((w3.setCell ⟨w1.heap.size, 0, none⟩ (.int .i64 1)).setCell ⟨w1.heap.size, 1, none⟩ (.int .i64 4)).setCell ⟨w1.heap.size, 2, none⟩ (.int .i64 4)).setCell ⟨w1.heap.size, 3, none⟩ (.int .i64 100)).setCell ⟨w1.heap.size, 4, none⟩ (.int .i64 1048576)).cell? ⟨w1.heap.size, 1, none⟩ = some (.int .i64 4) := by go_simp
  have q2 : (((((w3.setCell ⟨w1.heap.size, 0, none⟩ (.int .i64 1)).setCell ⟨w1.heap.size, 1, none⟩ (.int .i64 4)).setCell ⟨w1.heap.size, 2, none⟩ (.int .i64 4)).setCell ⟨w1.heap.size, 3, none⟩ (.int .i64 100)).setCell ⟨w1.heap.size, 4, none⟩ (.int .i64 1048576)).cell? ⟨w1.heap.size, 2, none⟩ = some (.int .i64 4) := by go_simp
  have q3 : (((((w3.setCell ⟨w1.heap.size, 0, none⟩ (.int .i64 1)).setCell ⟨w1.heap.size, 1, none⟩ (.int .i64 4)).setCell ⟨w1.heap.size, 2, none⟩ (.int .i64 4)).setCell ⟨w1.heap.size, 3, none⟩ (.int .i64 100)).setCell ⟨w1.heap.size, 4, none⟩ (.int .i64 1048576)).cell? ⟨w1.heap.size, 3, none⟩ = some (.int .i64 100) := by go_simp
  have q4 : (((((w3.setCell ⟨w1.heap.size, 0, none⟩ (.int .i64 1)).setCell ⟨w1.heap.size, 1, none⟩ (.int .i64 4)).setCell ⟨w1.heap.size, 2, none⟩ (.int .i64 4)).setCell ⟨w1.heap.size, 3, none⟩ (.int .i64 100)).setCell ⟨w1.heap.size, 4, none⟩ (.int .i64 1048576)).cell? ⟨w1.heap.size, 4, none⟩ = some (.int .i64 1048576) := by go_simp
  have qf : (((((w3.setCell ⟨w1.heap.size, 0, none⟩ (.int .i64 1)).setCell ⟨w1.heap.size, 1, none⟩ (.int .i64 4)).setCell ⟨w1.heap.size, 2, none⟩ (.int .i64 4)).setCell ⟨w1.heap.size, 3, none⟩ (.int .i64 100)).setCell ⟨w1.heap.size, 4, none⟩ (.int .i64 1048576)).frozen? ⟨w1.heap.size, 1, none⟩ = false := by go_simp
  generalize (((((w3.setCell ⟨w1.heap.size, 0, none⟩ (.int .i64 1)).setCell ⟨w1.heap.size, 1, none⟩ (.int .i64 4)).setCell ⟨w1.heap.size, 2, none⟩ (.int .i64 4)).setCell ⟨w1.heap.size, 3, none⟩ (.int .i64 100)).setCell ⟨w1.heap.size, 4, none⟩ (.int .i64 1048576)) = W4 at hG14 hS34 q0 q1 q2 q3 q4 qf ⊢
  clear d0 d1 d2 d3 d4 e0 e1 e2 e3 e4 HZ3
  refine (addE [exX, exP] 1 4 4 100 1048576 _ ex4 _ _ _ (HE.out.mono (HG1.out.trans hG14)) (HA1.out.mono hG14) hS34 (by decide)).mono ?_
  rintro e w4 ⟨v4, rfl, -, g4, -⟩
  have c0 := keep_cell g4 q0
  have c1 := keep_cell g4 q1
  have c2 := keep_cell g4 q2
  have c3 := keep_cell g4 q3
  have c4 := keep_cell g4 q4
  have z1 : w4.frozen? ⟨w1.heap.size, 1, none⟩ = false := (g4.frozen (World.block_lt_of_cell? _ _ q1)).trans qf
  have hG15 : Grew w1 (w4.setCell ⟨w1.heap.size, 1, none⟩ (.int .i64 3)) := (hG14.trans g4).setCell (Nat.le_refl _) _
  have hS35 : SlR (w4.setCell ⟨w1.heap.size, 1, none⟩ (.int .i64 3)) v3 [exX, exP] := slR_set _ (hS34.mono g4) _ HF3.out hY2
  have HG15 := Lib.hid hG15
  have HS35 := Lib.hid hS35
  clear g4 hG14 hS34 q0 q1 q2 q3 q4 qf hG15 hS35
  dsimp only
  go_wp2_with fail
  refine (addE [exX, exP] 1 3 4 100 1048576 _ ex5 _ _ _ (HE.out.mono (HG1.out.trans HG15.out)) (HA1.out.mono HG15.out) HS35.out (by decide)).mono ?_
  rintro e w5 ⟨v5, rfl, s5, g5, -⟩
  have HG5 := Lib.hid (HG15.out.trans g5)
  have HS5 := Lib.hid s5
  have HA5 := Lib.hid (HA1.out.mono (HG15.out.trans g5))
  clear c0 c1 c2 c3 c4 z1 g5 s5 HG15 HS35 HF3 HS3 HG3 hY2
  dsimp only
  go_wp2_with fail
  have hB := exBr (w5.alloc (.cells #[.int .i64 1] 3)) 3 74
  have hR1 := Rd.fresh w5 3 1 1 [.int .i64 1] rfl (by decide)
  simp only [size_alloc_own] at hB
  refine (inhE _ _ _ _ _ (HE.out.mono (HG1.out.trans ((((HG5.out.alloc _).alloc _).alloc _).alloc _))) (Rd.mono hR1 ((((Grew.refl _).alloc _).alloc _).alloc _)) (hB.mono ((Grew.refl _).alloc _)) (HA5.out.mono ((((Grew.refl _).alloc _).alloc _).alloc _ |>.alloc _)) (HS5.out.mono ((((Grew.refl _).alloc _).alloc _).alloc _ |>.alloc _))).mono ?_
  rintro e w6 ⟨v6, rfl, s6, g6⟩
  have HG6 := Lib.hid (show Grew w5 w6 from ((((Grew.refl _).alloc _).alloc _).alloc _ |>.alloc _).trans g6)
  have HS6 := Lib.hid s6
  clear g6 s6 hB hR1
  dsimp only
  go_wp2_with fail
  refine (holdE _ _ _ (HE.out.mono (HG1.out.trans (HG5.out.trans HG6.out))) (HA5.out.mono HG6.out) (HS5.out.mono HG6.out)).mono ?_
  rintro e w7 ⟨v7, rfl, s7, g7⟩
  obtain ⟨A7, c7, rfl, -, -, -⟩ := s7.open_
  have HG7 := Lib.hid (HG6.out.trans g7)
  have HG67 := Lib.hid g7
  clear g7 s7
  dsimp only
  go_wp2_with fail
  refine (unitE _ _ _ (HE.out.mono (HG1.out.trans (HG5.out.trans HG7.out))) (HA5.out.mono HG7.out) (HS5.out.mono HG7.out)).mono ?_
  rintro e w8 ⟨v8, rfl, s8, g8⟩
  have HG8 := Lib.hid (HG7.out.trans g8)
  have HG68 := Lib.hid (HG67.out.trans g8)
  have HS8 := Lib.hid s8
  obtain ⟨b0, b1, b2, b3, b4⟩ := HX1.out
  have x0 := keep_cell (HG5.out.trans HG8.out) b0
  have x1 := keep_cell (HG5.out.trans HG8.out) b1
  have x2 := keep_cell (HG5.out.trans HG8.out) b2
  have x3 := keep_cell (HG5.out.trans HG8.out) b3
  have x4 := keep_cell (HG5.out.trans HG8.out) b4
  clear g8 s8 b0 b1 b2 b3 b4
  dsimp only
  go_wp2_with fail
  refine (textE _ (HE.out.mono (HG1.out.trans (HG5.out.trans HG8.out)))).mono ?_
  rintro e w9 ⟨rfl, g9⟩
  have y0 := keep_cell g9 x0
  have y1 := keep_cell g9 x1
  have y2 := keep_cell g9 x2
  have y3 := keep_cell g9 x3
  have y4 := keep_cell g9 x4
  have HG9 := Lib.hid (HG8.out.trans g9)
  have HG69 := Lib.hid (HG68.out.trans g9)
  have HG89 := Lib.hid g9
  clear g9 x0 x1 x2 x3 x4
  dsimp only
  go_wp2_with fail
  refine (endE _ _ _ (HE.out.mono (HG1.out.trans (HG5.out.trans HG9.out))) (HA5.out.mono HG9.out) (HS5.out.mono HG9.out)).mono ?_
  rintro e w10 ⟨A10, c10, rfl, g10⟩
  have HG10 := Lib.hid (HG9.out.trans g10)
  have HG610 := Lib.hid (HG69.out.trans g10)
  have HG810 := Lib.hid (HG89.out.trans g10)
  clear g10 y0 y1 y2 y3 y4
  dsimp only
  go_wp2_with fail
  refine (checkE _ _ _ (HE.out.mono (HG1.out.trans (HG5.out.trans HG10.out))) (HA5.out.mono HG10.out) (HS5.out.mono HG10.out)).mono ?_
  rintro e w11 ⟨rfl, g11⟩
  have HG11 := Lib.hid (HG10.out.trans g11)
  have HG611 := Lib.hid (HG610.out.trans g11)
  have HG811 := Lib.hid (HG810.out.trans g11)
  clear g11
  dsimp only
  go_wp2_with fail
  refine (eqE 4 _ _ _ _ HS6.out HG611.out).mono ?_
  rintro e w12 ⟨rfl, g12⟩
  have HG12 := Lib.hid (((Grew.refl w11).alloc _).trans g12)
  clear g12
  dsimp only
  go_wp2_with fail
  refine (eqE 1 _ _ _ _ HS8.out (HG811.out.trans HG12.out)).mono ?_
  rintro e w13 ⟨rfl, g13⟩
  have HG13 := Lib.hid ((HG12.out.alloc _).trans g13)
  clear g13
  dsimp only
  go_wp2
  go_ret
  exact ⟨rfl, HG1.out.trans (HG5.out.trans (HG11.out.trans HG13.out))⟩
end Go.Proofs.YtfghbendiofbeaaGreatDoor
