/- Lemmas on what the functions of the program and of the library compute: RC1. The conditions stand at each. -/
import Derived.Test.YtafncfomiolmgaaGreatDoorQ8
import Derived.Test.YtafncfomiolmgaaGreatDoorQ4
namespace Go.Proofs.YtafncfomiolmgaaGreatDoor
open Go.RowKit
set_option maxRecDepth 100000 in
theorem c_24 {p:Prop} (h:p:=by
 go_region_law (first|(refine stepZ (o:=⟨some 37,_,_,_,_,_⟩) b_39 (.tmp 33) (.tmp 36) 32 b_39 w 3 k0 (.int .i64 0) 1 8 Tryz.underlying32 hk0 hx0 hx1 hx2 rfl hsz1 _ 0 [] b_39 _ b_11 (by repeat (first|exact uX _|assumption|refine yZ ?_ (by simp<;>omega) _|refine uU ?_ _|refine uJ ?_|refine Grew.drewN ?_ _|refine uY ?_ b_35)) _ k _ b_39 (HP.out _ (by repeat (first|exact uX _|assumption|refine yZ ?_ (by simp<;>omega) _|refine uU ?_ _|refine uJ ?_|refine Grew.drewN ?_ _|refine uY ?_ b_35))) HPL.out (one_cellsI _) hp63 hpb ?_;intro v1 w1 o1 g1 q1 z1;have O1:=uZ o1;have G1:=uZ g1;have X1:=uZ q1;(try simp at z1);clear o1 g1 q1)|(refine stepZ (o:=⟨some 40,_,_,_,_,_⟩) b_39 (.tmp 37) (.tmp 39) 32 b_39 w 3 k0 (.int .i64 0) 1 8 Tryz.underlying32 hk0 hx0 hx1 hx2 rfl hsz1 _ (0+k) ([]++(l.take k).flatMap oneI) b_39 _ (by repeat (first|exact O1.out|refine World.ownsRow.alloc ?_ _)) (by repeat (first|exact G1.out|refine uU ?_ _|refine uJ ?_)) _ 1 [.int .i64 n] b_39 (by first|exact rd_lit _ rfl _ b_38|exact rd_block rfl b_36 b_37 (fun j u hu=>by rcases j with _|j<;>simp at hu;subst hu;exact X1.out _ _ b_38 (by change some _≠some _;simp))) b_38 hone hq63 hqb ?_;intro v2 w2 o2 g2 q2 z2;have O2:=uZ o2;have G2:=uZ g2;clear o2 g2 q2 z2)|(refine stepZ (o:=⟨some 44,_,_,_,_,_⟩) b_39 (.tmp 40) (.tmp 43) 32 b_39 w 3 k0 (.int .i64 0) 1 8 Tryz.underlying32 hk0 hx0 hx1 hx2 rfl hsz1 _ (0+k+1) ([]++(l.take k).flatMap oneI++[.int .i64 n]) b_39 _ O2.out G2.out _ (l.length-k) _ b_39 (HS.out _ G2.out) HSL.out (one_cellsI _) hs63 hsb ?_;intro v3 w3 o3 g3 q3 z3;have O3:=uZ o3;have G3:=uZ g3;clear o3 g3 q3 z3))
 all_goals
  go_wp2_with fail
  go_ret
  exact⟨_,rfl,ins_done O3.out,G3.out⟩):p:=h
def RetI (l:List Int) (w:World) (e:Ending) (w':World):Prop:=∃ v,e=.returned v∧SlI w' v l∧Grew w w'
theorem ins_done {w:World} {base:Nat} {v:Value} {p q:List Int} {x:Int} {m:Nat} (h:w.ownsRow base 3 1 v m ([]++p.flatMap oneI++[.int .i64 x]++q.flatMap oneI)):SlI w v (p++x::q):=by
 have e:([]++p.flatMap oneI++[.int .i64 x]++q.flatMap oneI)=(p++x::q).flatMap oneI:=by simp[oneI]
 rw[e] at h
 exact Rd.of_own h
set_option maxHeartbeats 8000000 in
set_option maxRecDepth 100000 in
theorem refInsert (l:List Int) (n:Int) (v:Value) (w:World) (hv:SlI w v l) (hl:l.length≤1000000):Calls Tryz.prog 67 #[v,.int .i64 n] w (RetI (insU n l) w):=by
 have HV:=uZ hv
 obtain⟨A,c,rfl,hlc,hc,hr⟩:=hv.open_
 unfold maxLen at hc
 have HR:=uZ hr
 obtain⟨k0,hk0,hx0,hx1,hx2⟩:=info_parts cinfoI
 have HI1:=uZ (insU_at n l)
 have HI2:=uZ (insU_in n l)
 generalize insU n l=R at HI1 HI2 ⊢
 clear hr hv
 go_enter Tryz.func67,Tryz.ntmps67
 go_wp2
 go_loop [5] (fun i=>∃ k:Nat,k≤l.length∧i=.int .i64 k∧Aside (∀ j (hj:j<l.length),j<k→l[j]<n)) (fun i=>l.length-(intOf i).toNat)
 case atStart=>exact⟨0,by omega,rfl,(show Aside _ from fun j h h2=>absurd h2 (Nat.not_lt_zero _))⟩
 case round =>
  obtain⟨k,hk,rfl,M⟩:=hrel
  have h0z:(0:Int)≤(k:Int):=by omega
  by_cases hin:∃ h:k<l.length,l[k]≤n
  ·obtain⟨hlt,hle⟩:=hin
   have hltz:(k:Int)<(l.length:Int):=by omega
   obtain⟨b,off,rfl,hb,hcell⟩:=HR.out b_37
   have c0:=hcell _ (uX w) k hlt
   have HN:RowKit.Hid (l[k]<n→∀ j (h:j<l.length),j<k+1→l[j]<n):=fun h j hj h2=>by
    exact c_69
   have HS:=uZ (HI2.out k hlt M.out)
   generalize l[k]=y at c0 HN HS hle
   clear hcell
   by_cases he:y=n
   ·have he':(y == n)=true:=by simpa using he
    have hy:decide (y<n)=false:=by simp;omega
    have hR:=HS.out he
    subst hR
    clear HN HS he hle M HI1 HI2
    go_wp2
    go_ret
    exact⟨_,rfl,HV.out,uX _⟩
   ·have hy:decide (y<n)=true:=by simp;omega
    have Hy:=uZ (HN.out b_37)
    clear HN HS he M HI1 HI2
    exact c_64
  have hR := HI1.out k hk M.out (fun h => by by_cases e : l[k] ≤ n; · exact absurd ⟨h, e⟩ hin
                                             · omega)
  subst hR
  clear HI1 HI2 M
  have hsz1:0<1:=by omega
  have e1:=part_to Tryz.underlying32 hk0 A l.length c k hk hlc
  have e2:=part_from Tryz.underlying32 hk0 hx1 A l.length c k hk
  have HP:RowKit.Hid (∀ W,Grew w W→Rd W 1 (.slice A k c) ((l.take k).flatMap oneI)):=fun W hW=>by
   have h:=preV_rd (Rd.mono HV.out hW) hk
   rw[(flat_take (f:=oneI) (k:=1) (fun _=>rfl) l k).1] at h
   exact h
  have HS:RowKit.Hid (∀ W,Grew w W→Rd W 1 (sufV A l.length c k 1) ((l.drop k).flatMap oneI)):=fun W hW=>by
   have h:=sufV_rd (Rd.mono HV.out hW) hk
   rw[(flat_take (f:=oneI) (k:=1) (fun _=>rfl) l k).2] at h
   exact h
  generalize sufV A l.length c k 1=V2 at e2 HS
  have hpl:((l.take k).flatMap oneI).length=k*1:=by rw[flatMap_len oneI 1 (fun _=>rfl),List.length_take,Nat.min_eq_left hk]
  have hsl:((l.drop k).flatMap oneI).length=(l.length-k)*1:=by rw[flatMap_len oneI 1 (fun _=>rfl),List.length_drop]
  have hp63:0+k≤maxLen:=by unfold maxLen;omega
  have hpb:(0+k)*8≤140737488355328:=by omega
  have hq63:0+k+1≤maxLen:=by unfold maxLen;omega
  have hqb:(0+k+1)*8≤140737488355328:=by omega
  have hs63:0+k+1+(l.length-k)≤maxLen:=by unfold maxLen;omega
  have hsb:(0+k+1+(l.length-k))*8≤140737488355328:=by omega
  have hone:∀ u∈[Value.int .i64 n],u.oneCell'=true:=by simp[Value.oneCell']
  have HPL:=uZ hpl
  have HSL:=uZ hsl
  clear hpl hsl
  have hcase:(k<l.length∧∃ b off,A=some ⟨b,off,none⟩∧∃ y,n<y∧w.cell? ⟨b,off+k,none⟩=some (.int .i64 y))∨¬ k<l.length:=by
   by_cases hlt:k<l.length
   ·obtain⟨b,off,hA,hb,hcell⟩:=HR.out b_37
    exact .inl ⟨hlt, b, off, hA, l[k], by by_cases e : l[k] ≤ n; · exact absurd ⟨hlt, e⟩ hin
                                          · omega, hcell _ (uX w) k hlt⟩
   ·exact .inr hlt
  clear hin
  rcases hcase with ⟨hlt,b,off,rfl,y,hy,c0⟩|hge
  ·have hltz:(k:Int)<(l.length:Int):=by omega
   have hy1:decide (y<n)=false:=by simp;omega
   have hy2:(y == n)=false:=by simp;omega
   clear hlt hy
   go_wp2_with fail
   clear c0 hy1 hy2
   exact c_24
  ·have hltz:¬ (k:Int)<(l.length:Int):=by omega
   clear hge
   go_wp2_with fail
   exact c_24
end Go.Proofs.YtafncfomiolmgaaGreatDoor