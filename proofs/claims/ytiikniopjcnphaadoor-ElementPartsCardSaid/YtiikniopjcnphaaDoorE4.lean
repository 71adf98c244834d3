/- slices.Sorted over slices.Values, slices.Compact behind it, and element.Languages: what they return. No condition. -/
import Derived.Test.YtiikniopjcnphaaDoorE3
import Derived.Test.YtiikniopjcnphaaDoorSeqS
import Derived.Test.YtiikniopjcnphaaDoorPlainB
namespace Go.Proofs.YtiikniopjcnphaaDoor
open Go.RowKit Go.Sort

theorem grew_sorted {α : Type} [Inhabited α] {w0 w1 : World} {blk off : Nat} (hb : w0.heap.size ≤ blk) (hg : Grew w0 w1) (enc : α → Value) (d : Array α) (n : Nat) (os : Array Obj) : Grew w0 (grow (putRow enc (Sort.ahead w1 n) blk off d) os) := by
  refine ⟨hg.os, hg.tape, hg.output, ?_, fun k hk => ?_⟩
  · have := hg.size
    simp
    omega
  · have h1 := hg.size
    rw [heap_grow_old _ _ (by simp; omega)]
    have : (putRow enc (Sort.ahead w1 n) blk off d).heap[k]? = w1.heap[k]? := by
      simp only [putRow, mapBlock, heap_ahead, Array.getElem?_modify]
      rw [if_neg (by omega)]
    rw [this]
    exact hg.block k hk
theorem grew_put {α : Type} [Inhabited α] {w0 w1 : World} {blk off : Nat} (hb : w0.heap.size ≤ blk) (hg : Grew w0 w1) (enc : α → Value) (d : Array α) (n : Nat) : Grew w0 (putRow enc (Sort.ahead w1 n) blk off d) := by
  have := grew_sorted (off := off) hb hg enc d n #[]
  rwa [grow_empty] at this

def strs (l : List ByteArray) : List Str := l.map fun s => s.data.toList
theorem enc_strs (l : List ByteArray) : (strs l).map encStr = l.map Value.string := by
  simp [strs, encStr]
theorem holds_of_own {w : World} {base : Nat} {e : TypeId} {g cap : Nat} {l : List ByteArray} (h : w.ownsRow base e 1 (.slice (some ⟨g, 0, none⟩) l.length cap) l.length (l.map Value.string)) : Holds encStr w g 0 (strs l).toArray := by
  intro j hj
  have hj' : j < l.length := by simpa [strs] using hj
  refine ⟨?_, by rw [Nat.zero_add]; exact h.frozenAt j⟩
  rw [Nat.zero_add, h.cellAt j (by omega)]
  simp [strs, hj', encStr]

/-- slices.Sorted over slices.Values, of a slice that is not empty. -/
theorem sorted_any (sv : Value) (zs : List ByteArray) (hbytes : zs.length * 16 ≤ 140737488355328) (h0 : 0 < zs.length) (Bs : Nat) (w w0 : World) (hBs : Bs < w.heap.size) (hg : Grew w0 w) (hc : w.cell? ⟨Bs, 0, none⟩ = some sv) (hI : SlS w0 sv zs) :
    Calls Tryd.prog 50 #[.func (.func 70) #[] #[.pointer (some ⟨Bs, 0, none⟩)]] w fun e w' => ∃ blk cap, e = .returned (.slice (some ⟨blk, 0, none⟩) zs.length cap) ∧ zs.length ≤ cap ∧ w.heap.size ≤ blk ∧ blk < w'.heap.size ∧ Holds encStr w' blk 0 (sortS (strs zs)).toArray ∧ Grew w w' := by
  have hco := Lib.hid (collectS_any sv zs hbytes Bs w w0 hBs hg hc hI)
  clear hc hI hg hBs
  go_enter Tryd.func50, Tryd.ntmps50
  go_wp2_with fail
  refine hco.out.mono ?_
  rintro e w1 ⟨v, rfl, ho, hb⟩
  obtain ⟨g, cap, hv, hbg, hlt, hcap⟩ := own_form ho h0
  subst hv
  have hH := holds_of_own ho
  have hs := Tryd.slices_Sort_string g 0 cap (strs zs) w1 hH hlt (by simp [strs]; omega)
  rw [show (strs zs).length = zs.length by simp [strs]] at hs
  have HS := Lib.hid hs
  have HH := Lib.hid hH
  clear hs hH ho
  go_wp2_with fail
  refine HS.out.mono ?_
  rintro e w2 ⟨rfl, n, os, hw2⟩
  have hl2 : (sortS (strs zs)).toArray.size = (strs zs).toArray.size := by simp [(sortS_perm (strs zs)).length_eq]
  have hg2 : Grew w w2 := by rw [hw2]; exact grew_sorted hbg hb _ _ _ _
  have hh2 : Holds encStr w2 g 0 (sortS (strs zs)).toArray := by
    rw [hw2]
    exact holds_grow _ _ _ _ _ _ (by simpa using hlt) (holds_putRow _ _ _ _ _ _ (holds_ahead _ _ _ _ _ _ HH.out) hl2)
  have hz2 : g < w2.heap.size := by rw [hw2]; simp; omega
  clear hw2 hl2
  have Hh2 := Lib.hid hh2
  clear hh2
  go_wp2
  go_ret
  exact ⟨g, cap, rfl, hcap, hbg, hz2, Hh2.out, hg2⟩

theorem containsFuncS (l : List ByteArray) (p : ByteArray → Bool) (g : Nat) (lb : Array Value) (eg : ∀ args w, (callFunc g args).run Tryd.prog w = .ok (.enter g args) w) (v : Value) (w : World) (hv : SlS w v l)
    (hp : ∀ W x, Grew w W → x ∈ l → Calls Tryd.prog g (#[.string x] ++ lb) W fun e w' => e = .returned (.bool (p x)) ∧ Grew W w') :
    Calls Tryd.prog 47 #[v, .func (.func g) #[] lb] w fun e w' => e = .returned (.bool (l.any p)) ∧ Grew w w' := by
  have hi := Lib.hid (indexFuncS l p g lb eg v w hv hp)
  have hd : decide (0 ≤ idxP p l) = l.any p := idxP_any p l
  generalize idxP p l = i at hi hd
  have Hd := Lib.hid hd
  clear hv hp hd
  go_enter Tryd.func47, Tryd.ntmps47
  go_wp2_with (first | (go_at_call 53; refine hi.out.mono ?_; rintro e w1 ⟨rfl, hg⟩))
  go_ret
  exact ⟨ret_bool Hd.out, hg⟩

/-- The fault of a list of languages: the errors' numbers. -/
def langsF (l : List ByteArray) : Int :=
  if l.length = 0 then 9 else if 8 < l.length then 8 else if l.any (fun s => !isLangF s.data.toList) then 3 else if (strs l).Nodup then 0 else 6
theorem enters_languages1 : ∀ args w, (callFunc 48 args).run Tryd.prog w = .ok (.enter 48 args) w := enters_of Tryd.func48 (by kernel_rfl) rfl

set_option maxHeartbeats 1000000 in
theorem languages_any (l : List ByteArray) (v : Value) (w : World) (hv : SlS w v l) : Calls Tryd.prog 24 #[v] w fun e w' => e = .returned (.int .i64 (langsF l)) ∧ Grew w w' := by
  have hcf := Lib.hid (containsFuncS l (fun s => !isLangF s.data.toList) _ #[] enters_languages1 v w hv (fun W x _ _ => languages1_any x W))
  have HV := Lib.hid hv
  obtain ⟨A, c, rfl, hlc, hc, hr⟩ := hv.open_
  clear hr
  unfold maxLen at hc
  by_cases h0 : l.length = 0
  · have hr : langsF l = 9 := by simp [langsF, h0]
    rw [hr]
    have hb : ((l.length : Int) == 0) = true := beq_iff_eq.2 (by omega)
    clear h0 hr hcf
    go_enter Tryd.func24, Tryd.ntmps24
    go_wp2
    go_ret
    exact ⟨rfl, Grew.refl w⟩
  have hb : ((l.length : Int) == 0) = false := beq_eq_false_iff_ne.2 (by omega)
  by_cases h8 : 8 < l.length
  · have hr : langsF l = 8 := by simp [langsF, h0, h8]
    rw [hr]
    have h8' : (8 : Int) < (l.length : Int) := by omega
    clear h0 hr hcf
    go_enter Tryd.func24, Tryd.ntmps24
    go_wp2
    go_ret
    exact ⟨rfl, Grew.refl w⟩
  have h8' : ¬ (8 : Int) < (l.length : Int) := by omega
  have hpos : 0 < l.length := by omega
  by_cases hs : l.any (fun s => !isLangF s.data.toList) = true
  · have hr : langsF l = 3 := by simp only [langsF, h0, h8, hs]; rfl
    rw [hr]
    rw [hs] at hcf
    clear h0 hr hs HV
    go_enter Tryd.func24, Tryd.ntmps24
    go_wp2_with (first | (go_at_call 47; refine hcf.out.mono ?_; rintro e w1 ⟨rfl, hg⟩))
    go_ret
    exact ⟨rfl, hg⟩
  simp only [Bool.not_eq_true] at hs
  rw [hs] at hcf
  generalize hR : langsF l = R
  have HR : RowKit.Hid (R = if (Lib.compact (sortS (strs l))).length < l.length then 6 else 0) := by
    have e : langsF l = if (strs l).Nodup then 0 else 6 := by simp only [langsF, h0, h8, hs]; rfl
    have := compact_lt (strs l)
    rw [show (strs l).length = l.length by simp [strs]] at this
    rw [← hR, e]
    by_cases hn : (strs l).Nodup
    · rw [if_pos hn, if_neg (by rw [this]; exact fun h => h hn)]; exact rfl
    · rw [if_neg hn, if_pos (by rw [this]; exact hn)]; exact rfl
  have hle : (Lib.compact (sortS (strs l))).length ≤ l.length := by
    have := compact_len_le (sortS (strs l))
    rw [(sortS_perm (strs l)).length_eq] at this
    simpa [strs] using this
  have hsl : (sortS (strs l)).length = l.length := by rw [(sortS_perm (strs l)).length_eq]; simp [strs]
  have Hsl := Lib.hid hsl
  clear h0 hs hR hsl
  go_enter Tryd.func24, Tryd.ntmps24
  go_wp2_with (first | (go_at_call 47; refine hcf.out.mono ?_; rintro e w1 ⟨rfl, hg⟩) | (go_at_call 51; refine (valuesS_any _ _ _ _).mono ?_; rintro e w2 ⟨rfl, rfl⟩))
  refine (sorted_any (.slice A l.length c) l (by omega) hpos _ _ w1 (by simp) ((Grew.refl w1).alloc _) (by simp) (HV.out.mono hg)).mono ?_
  rintro e w2 ⟨blk, cap, rfl, hcap, hbk, hlt, hH, hg2⟩
  have hcp := Tryd.slices_Compact_string blk 0 cap (sortS (strs l)) w2 hH (by rw [Hsl.out]; omega) (by rw [Hsl.out]; exact hcap)
  rw [Hsl.out] at hcp
  have HCP := Lib.hid hcp
  clear hcp hH
  go_wp2_with (first | (go_at_call 49; refine HCP.out.mono ?_; rintro e w3 ⟨rfl, q, hw3⟩; have hg3 : Grew w w3 := by { rw [hw3]; exact grew_put (Nat.le_trans (by have := hg.size; simp; omega) hbk) ((hg.alloc _).trans hg2) _ _ _ }; clear hw3))
  · have hlt2 : (Lib.compact (sortS (strs l))).length < l.length := by assumption
    go_ret
    exact ⟨congrArg (fun z => Ending.returned (Value.int .i64 z)) (HR.out.trans (if_pos hlt2)).symm, hg3⟩
  · have hlt2 : l.length ≤ (Lib.compact (sortS (strs l))).length := by first | assumption | omega
    go_ret
    exact ⟨congrArg (fun z => Ending.returned (Value.int .i64 z)) (HR.out.trans (if_neg (by omega))).symm, hg3⟩
end Go.Proofs.YtiikniopjcnphaaDoor
