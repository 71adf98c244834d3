/- Lemmas on what the functions of the program and of the library compute: SortV. The conditions stand at each. -/
import Derived.Test.YtjaknioojpgkiaaGreatDoorQ43
import Derived.Test.YtjaknioojpgkiaaGreatDoorQ42
import Derived.Test.YtjaknioojpgkiaaGreatDoorQ16
import Derived.Test.YtjaknioojpgkiaaGreatDoorQ26
/- slices.SortFunc at values, by the law's own order, on a row of the call's own. No condition but the sizes that a slice can have. -/
namespace Go.Proofs.YtjaknioojpgkiaaGreatDoor
open Go.RowKit Go.Sort Go.Lib

set_option maxHeartbeats 1000000 in
theorem lessV2 (a b : Val) (w : World) : Calls Tryz.prog 47 #[a.agg, b.agg] w fun e w' => e = .returned (.bool (lessV a b)) ∧ ∃ o1 o2, w' = (w.alloc o1).alloc o2 := by
  have hL := lessV_ltV a b
  unfold Val.agg
  unfold ltV cbLt at hL
  obtain ⟨au, ae, al, at_⟩ := a
  obtain ⟨bu, be, bl, bt⟩ := b
  generalize lessV ⟨au, ae, al, at_⟩ ⟨bu, be, bl, bt⟩ = R at hL
  dsimp only at hL ⊢
  have HL := Lib.hid hL
  clear hL
  by_cases h1 : au = bu
  case neg =>
    have h1' : (au != bu) = true := by simpa using h1
    have Hr : RowKit.Hid (decide (au < bu) = R) := by
      show _ = _
      rw [Bool.eq_iff_iff, HL.out]
      simp [h1]
    clear h1
    go_enter Tryz.func47, Tryz.ntmps47
    go_wp2
    go_ret
    exact ⟨ret_bool Hr.out, _, _, rfl⟩
  subst h1
  have h1' : (au != au) = false := by simp
  by_cases h2 : ae = be
  case neg =>
    have h2' : (ae != be) = true := by simpa using h2
    have Hr : RowKit.Hid (decide (ae < be) = R) := by
      show _ = _
      rw [Bool.eq_iff_iff, HL.out]
      simp [h2]
    clear h2
    go_enter Tryz.func47, Tryz.ntmps47
    go_wp2
    go_ret
    exact ⟨ret_bool Hr.out, _, _, rfl⟩
  subst h2
  have h2' : (ae != ae) = false := by simp
  have Hr : RowKit.Hid (Op.bytesLess al.toList bl.toList = R) := by
    show _ = _
    rw [Bool.eq_iff_iff, HL.out, less_cb, toList_dataE, toList_dataE]
    simp
  go_enter Tryz.func47, Tryz.ntmps47
  go_wp2
  go_ret
  exact ⟨ret_bool Hr.out, _, _, rfl⟩
/-- The law's order. -/
def cfV (x y : Val) : Int := if lessV x y then -1 else 1
theorem cfV_lt (x y : Val) : ltOf cfV x y = lessV x y := by
  unfold ltOf cfV
  cases lessV x y <;> rfl
theorem cfV_swo : SWO (ltOf cfV) := by
  refine ⟨fun x => ?_, fun x y z h1 h2 => ?_, fun x y z h1 h2 => ?_⟩
  · rw [cfV_lt]
    exact lessV_no (ltV_irr ⟨rfl, rfl, rfl⟩)
  · rw [cfV_lt] at h1 h2 ⊢
    exact lessV_yes (ltV_trans ((lessV_ltV _ _).1 h1) ((lessV_ltV _ _).1 h2))
  · rw [cfV_lt] at h1 h2 ⊢
    refine lessV_no fun k => ?_
    have n1 : ¬ ltV x y := fun q => by rw [lessV_yes q] at h1; cases h1
    have n2 : ¬ ltV y z := fun q => by rw [lessV_yes q] at h2; cases h2
    rcases ltV_tri x y with q | q | q
    · exact n1 q
    · exact n2 (ltV_left q k)
    · exact n2 (ltV_trans q k)
set_option maxHeartbeats 1000000 in
theorem cmpV1 (x y : Val) (W : World) : Calls Tryz.prog 46 #[x.agg, y.agg] W fun e w' => e = .returned (.int .i64 (cfV x y)) ∧ ∃ q os', w' = grow (W.drewN q) os' := by
  have hk := fun W => lessV2 x y W
  unfold cfV
  generalize lessV x y = q at hk ⊢
  obtain ⟨xu, xe, xl, xt⟩ := x
  obtain ⟨yu, ye, yl, yt⟩ := y
  unfold Val.agg at hk ⊢
  dsimp only at hk ⊢
  have K := Lib.hid hk
  clear hk
  cases q with
  | true =>
    rw [if_pos rfl]
    go_enter Tryz.func46, Tryz.ntmps46
    go_wp2_with fail
    refine (K.out _).mono ?_
    rintro e w1 ⟨rfl, o1, o2, rfl⟩
    dsimp only
    go_wp2
    go_ret
    exact ⟨rfl, 0, _, by rw [alloc_eq_grow, alloc_eq_grow, alloc_eq_grow, alloc_eq_grow, grow_grow, grow_grow, grow_grow]; rfl⟩
  | false =>
    rw [if_neg (by decide)]
    go_enter Tryz.func46, Tryz.ntmps46
    go_wp2_with fail
    refine (K.out _).mono ?_
    rintro e w1 ⟨rfl, o1, o2, rfl⟩
    dsimp only
    go_wp2
    go_ret
    exact ⟨rfl, 0, _, by rw [alloc_eq_grow, alloc_eq_grow, alloc_eq_grow, alloc_eq_grow, grow_grow, grow_grow, grow_grow]; rfl⟩
theorem enters_cmpV1 : ∀ args w, (callFunc 46 args).run Tryz.prog w = .ok (.enter 46 args) w := enters_of Tryz.func46 (by kernel_rfl) rfl
theorem cmpV_lays (blk off size : Nat) (w : World) : CmpLays Tryz.prog 46 #[] Val.cells 4 cfV blk off size w := fun _ _ _ _ x y => by
  have := cmpV1 x y
  unfold Val.agg at this
  exact this _
/-- The flat row of a list of values. -/
theorem flat_row (l : List Val) : flatK Val.cells 4 l.toArray = (l.flatMap Val.cells).toArray := by
  have hfl := flatMap_len Val.cells 4 (fun _ => rfl) l
  refine Array.ext (by simp [hfl]) fun i h1 h2 => ?_
  have hi : i < l.length * 4 := by simpa using h1
  have e : i = i / 4 * 4 + i % 4 := by omega
  have hq : i / 4 < l.length := by omega
  have hr : i % 4 < 4 := Nat.mod_lt _ (by omega)
  have hg := flatMap_get Val.cells 4 (fun _ => rfl) l (i / 4) (i % 4) hq hr
  rw [← e] at hg
  have hk := get_flatK Val.cells 4 l.toArray i (by simpa using hi)
  rw [getElem!_pos _ i h1] at hk
  rw [hk]
  have h3 : l.toArray[i / 4]! = l[i / 4] := by rw [getElem!_pos l.toArray (i / 4) (by simpa using hq)]; simp
  have h4 : i % 4 < (l[i / 4]).cells.length := hr
  rw [h3, getElem!_pos (l[i / 4]).cells (i % 4) h4]
  rw [List.getElem?_eq_getElem h4, List.getElem?_eq_getElem (by simpa using h2)] at hg
  simpa using (Option.some.inj hg).symm
theorem heap_sortedId {w : World} {g n : Nat} {os : Array Obj} {cur : Array Value} {e : TypeId} {fr : Nat × Nat} (d : Array Value) (hb : w.heap[g]? = some (.cells cur e fr)) :
    (grow (putRow id (Sort.ahead w n) g 0 d) os).heap[g]? = some (.cells (putCells id 0 d cur) e fr) := by
  have hg : g < w.heap.size := (Array.getElem?_eq_some_iff.1 hb).1
  rw [heap_grow_old _ _ (by simpa using hg)]
  simp [putRow, mapBlock, Sort.ahead, Array.getElem?_modify, hb, onCells]
theorem grownBy_sortedId {w : World} {g n : Nat} {os : Array Obj} (d : Array Value) : w.grownBy (grow (putRow id (Sort.ahead w n) g 0 d) os) (some g) := by
  refine ⟨rfl, rfl, rfl, by simp, fun k hk hne => ?_⟩
  rw [heap_grow_old _ _ (by simpa using hk)]
  have : g ≠ k := fun e => hne (by rw [e])
  simp [putRow, mapBlock, Sort.ahead, Array.getElem?_modify, this]
theorem take_putCellsId (cur : Array Value) (ts : List Value) (h : ts.length ≤ cur.size) : (putCells id 0 ts.toArray cur).toList.take ts.length = ts := by
  apply List.ext_getElem?
  intro j
  by_cases hj : j < ts.length
  · rw [List.getElem?_take_of_lt hj, Array.getElem?_toList]
    simp [putCells, hj, show j < cur.size by omega]
  · rw [List.getElem?_take_eq_none (by omega), List.getElem?_eq_none (by omega)]
/-- There is one order of a list with different keys. -/
theorem sorted_is {l m : List Val} {d' : Array Val} (hm : l.Perm m) (hs : m.Pairwise ltV) (hp : PermIn 0 l.toArray.size l.toArray d') (ho : SortedIn (ltOf cfV) 0 l.toArray.size d') : d'.toList = m := by
  obtain ⟨hsz, -, hperm⟩ := hp
  have e1 : d'.extract 0 l.toArray.size = d' := by rw [← hsz]; exact Array.extract_size
  rw [e1, Array.extract_size] at hperm
  have hpm : d'.toList.Perm m := hperm.trans hm
  have hnd : m.Nodup := (show m.Pairwise (· ≠ ·) from hs.imp fun {a b} h => fun e : a = b => by subst e; exact ltV_irr ⟨rfl, rfl, rfl⟩ h)
  have hnd2 : d'.toList.Nodup := hpm.nodup_iff.2 hnd
  have hpair : d'.toList.Pairwise ltV := by
    rw [List.pairwise_iff_getElem]
    intro i j hi hj hij
    have hi' : i < d'.size := by simpa using hi
    have hj' : j < d'.size := by simpa using hj
    have hlt := ho i j (Nat.zero_le _) hij (by rw [← hsz]; exact hj')
    rw [cfV_lt, getElem!_pos d' i hi', getElem!_pos d' j hj'] at hlt
    have hne : d'.toList[i] ≠ d'.toList[j] := List.pairwise_iff_getElem.1 hnd2 i j hi hj hij
    have mi : d'.toList[i] ∈ m := hpm.mem_iff.1 (List.getElem_mem hi)
    have mj : d'.toList[j] ∈ m := hpm.mem_iff.1 (List.getElem_mem hj)
    have key : ∀ {ms : List Val}, ms.Pairwise ltV → ∀ a ∈ ms, ∀ b ∈ ms, a ≠ b → ltV a b ∨ ltV b a := by
      intro ms
      induction ms with
      | nil => intro _ a ha; cases ha
      | cons x r ih =>
        intro hx a ha b hb hab
        rw [List.pairwise_cons] at hx
        rcases List.mem_cons.1 ha with ea | ha2
        · rcases List.mem_cons.1 hb with eb | hb2
          · exact absurd (ea.trans eb.symm) hab
          · rw [ea]
            exact .inl (hx.1 b hb2)
        · rcases List.mem_cons.1 hb with eb | hb2
          · rw [eb]
            exact .inr (hx.1 a ha2)
          · exact ih hx.2 a ha2 b hb2 hab
    rcases key hs _ mi _ mj hne with h | h
    · exact h
    · exfalso
      have : lessV d'[j] d'[i] = true := lessV_yes (by simpa using h)
      rw [this] at hlt
      cases hlt
  exact ltV_ext hpair hs fun x => hpm.mem_iff
theorem sortV_own (l m : List Val) (h0 : 0 < l.length) (hm : l.Perm m) (hs : m.Pairwise ltV) (w0 : World) (v : Value) (w : World) (hown : w.ownsRow w0.heap.size 29 4 v l.length (l.flatMap Val.cells)) (hg : Grew w0 w) (hl : l.length ≤ 1000000) :
    Calls Tryz.prog 45 #[v, .func (.func 46) #[] #[]] w fun en w' => en = .returned (.tuple #[]) ∧ w'.ownsRow w0.heap.size 29 4 v m.length (m.flatMap Val.cells) ∧ Grew w0 w' := by
  have hfl := flatMap_len Val.cells 4 (fun _ => rfl) l
  have hfm := flatMap_len Val.cells 4 (fun _ => rfl) m
  have hlm : l.length = m.length := hm.length_eq
  have hH0 := hown
  rcases hown.2 with ⟨_, hz⟩ | ⟨g, cap, cur, rfl, hbg, hh, h1, h2, h3, h4⟩
  · omega
  have hlt : g < w.heap.size := (Array.getElem?_eq_some_iff.1 hh).1
  have hH : HoldsK Val.cells 4 w g 0 l.toArray := by
    intro j hj
    rw [flat_row] at hj ⊢
    have hj' : j < (l.flatMap Val.cells).length := by simpa using hj
    rw [Nat.zero_add]
    refine ⟨?_, hH0.frozenAt j⟩
    rw [hH0.cellAt j (by omega), List.getElem?_eq_getElem hj', getElem!_pos _ j hj]
    simp
  refine (Tryz.slices_SortFunc4 Val.cells (fun _ => rfl) (fun x u hu => by simp [Val.cells] at hu; rcases hu with rfl | rfl | rfl | rfl <;> rfl) cfV cfV_swo 46 #[] g 0 cap l.toArray w enters_cmpV1 (cmpV_lays _ _ _ _) hH hlt (by simp; omega)).mono ?_
  rintro en w' ⟨rfl, d', n, os, hp, ho, rfl⟩
  have hd : d' = m.toArray := Array.toList_inj.1 (by rw [sorted_is hm hs hp ho])
  subst hd
  unfold sortWorldK putRowK
  rw [flat_row]
  refine ⟨rfl, ⟨by rw [hfm], .inr ⟨g, cap, _, by rw [hlm], hbg, heap_sortedId _ hh, by omega, h2, by simp [putCells, h3], ?_⟩⟩, ?_⟩
  · have := take_putCellsId cur (m.flatMap Val.cells) (by rw [hfm, h3]; omega)
    rw [hfm] at this
    exact this
  · exact Below.grown hg (grownBy_sortedId _) hg.size (fun k e => by cases e; exact hbg)
end Go.Proofs.YtjaknioojpgkiaaGreatDoor
