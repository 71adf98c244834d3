/- Lemmas on what the functions of the program and of the library compute: Lex. The conditions stand at each. -/
import Derived.Test.YtafncfomiolmgaaGreatDoorQ26
import Derived.Test.YtafncfomiolmgaaGreatDoorQ27
namespace Go.Proofs.YtafncfomiolmgaaGreatDoor
open Go.RowKit
def RetT (t:Tr) (w:World) (e:Ending) (w':World):Prop:=∃ rv bv,e=.returned (.agg #[rv,bv])∧TrOk w' rv bv t∧Grew w w'
theorem xBr (w:World) (t1 t2 t3:TypeId):SlBr (((w.alloc (.cells #[.int .i64 2,.int .i64 5] t1)).alloc (.cells #[.int .i64 9] t2)).alloc (.cells #[.int .i64 1,.int .i64 0,.int .i64 1,.string ⟨#[84,111,119,110]⟩,.string ⟨#[84]⟩,.slice (some ⟨w.heap.size,0,none⟩) 2 2,.int .i64 2,.int .i64 1,.int .i64 2,.string ⟨#[65,99,116,115]⟩,.string ⟨#[]⟩,.slice (some ⟨w.heap.size+1,0,none⟩) 1 1,.int .i64 5,.int .i64 1,.int .i64 2,.string ⟨#[80,108,97,110,115]⟩,.string ⟨#[]⟩,.slice none 0 0,.int .i64 9,.int .i64 2,.int .i64 3,.string ⟨#[77,105,108,108]⟩,.string ⟨#[84,45,57]⟩,.slice none 0 0] t3)) (.slice (some ⟨w.heap.size+1+1,0,none⟩) 4 4) xB:=by
 refine⟨[⟨1,0,1,⟨#[84,111,119,110]⟩,⟨#[84]⟩,.slice (some ⟨w.heap.size,0,none⟩) 2 2⟩,⟨2,1,2,⟨#[65,99,116,115]⟩,⟨#[]⟩,.slice (some ⟨w.heap.size+1,0,none⟩) 1 1⟩,⟨5,1,2,⟨#[80,108,97,110,115]⟩,⟨#[]⟩,.slice none 0 0⟩,⟨9,2,3,⟨#[77,105,108,108]⟩,⟨#[84,45,57]⟩,.slice none 0 0⟩],?_,rfl,fun i h h'=>?_⟩
 ·have:=Rd.fresh ((w.alloc (.cells #[.int .i64 2,.int .i64 5] t1)).alloc (.cells #[.int .i64 9] t2)) t3 6 4 [.int .i64 1,.int .i64 0,.int .i64 1,.string ⟨#[84,111,119,110]⟩,.string ⟨#[84]⟩,.slice (some ⟨w.heap.size,0,none⟩) 2 2,.int .i64 2,.int .i64 1,.int .i64 2,.string ⟨#[65,99,116,115]⟩,.string ⟨#[]⟩,.slice (some ⟨w.heap.size+1,0,none⟩) 1 1,.int .i64 5,.int .i64 1,.int .i64 2,.string ⟨#[80,108,97,110,115]⟩,.string ⟨#[]⟩,.slice none 0 0,.int .i64 9,.int .i64 2,.int .i64 3,.string ⟨#[77,105,108,108]⟩,.string ⟨#[84,45,57]⟩,.slice none 0 0] rfl b_36
  rw[size_allocB,size_allocB] at this
  simpa [SlB,BrC.cells] using this
 ·have hi:i=0∨i=1∨i=2∨i=3:=by
   have h4:i<4:=h
   omega
  rcases hi with rfl|rfl|rfl|rfl
  ·refine⟨rfl,?_⟩
   have:=Rd.fresh w t1 1 2 [.int .i64 2,.int .i64 5] rfl b_36
   exact Rd.mono this (((uX _).alloc _).alloc _)
  ·refine⟨rfl,?_⟩
   have:=Rd.fresh (w.alloc (.cells #[.int .i64 2,.int .i64 5] t1)) t2 1 1 [.int .i64 9] rfl b_36
   rw[size_allocB] at this
   exact Rd.mono this ((uX _).alloc _)
  ·exact⟨rfl,SlI.nil _⟩
  ·exact⟨rfl,SlI.nil _⟩
set_option maxHeartbeats 4000000 in
set_option maxRecDepth 100000 in
theorem exTr (w:World):Calls Tryz.prog 37 #[] w (RetT xT w):=by
 have hb:=xBr ((w.alloc (.cells [.slice (some ⟨w.heap.size+1,0,none⟩) 1 1,.slice (some ⟨w.heap.size+1+1+1+1,0,none⟩) 4 4].toArray 35)).alloc (.cells #[.int .i64 1] 3)) 3 3 53
 rw[size_allocB,size_allocB] at hb
 have hr:=Rd.fresh (w.alloc (.cells [.slice (some ⟨w.heap.size+1,0,none⟩) 1 1,.slice (some ⟨w.heap.size+1+1+1+1,0,none⟩) 4 4].toArray 35)) 3 1 1 [.int .i64 1] rfl b_36
 rw[size_allocB] at hr
 have hT:TrOk (((((w.alloc (.cells [.slice (some ⟨w.heap.size+1,0,none⟩) 1 1,.slice (some ⟨w.heap.size+1+1+1+1,0,none⟩) 4 4].toArray 35)).alloc (.cells #[.int .i64 1] 3)).alloc (.cells #[.int .i64 2,.int .i64 5] 3)).alloc (.cells #[.int .i64 9] 3)).alloc (.cells #[.int .i64 1,.int .i64 0,.int .i64 1,.string ⟨#[84,111,119,110]⟩,.string ⟨#[84]⟩,.slice (some ⟨w.heap.size+1+1,0,none⟩) 2 2,.int .i64 2,.int .i64 1,.int .i64 2,.string ⟨#[65,99,116,115]⟩,.string ⟨#[]⟩,.slice (some ⟨w.heap.size+1+1+1,0,none⟩) 1 1,.int .i64 5,.int .i64 1,.int .i64 2,.string ⟨#[80,108,97,110,115]⟩,.string ⟨#[]⟩,.slice none 0 0,.int .i64 9,.int .i64 2,.int .i64 3,.string ⟨#[77,105,108,108]⟩,.string ⟨#[84,45,57]⟩,.slice none 0 0] 53)) (.slice (some ⟨w.heap.size+1,0,none⟩) 1 1) (.slice (some ⟨w.heap.size+1+1+1+1,0,none⟩) 4 4) xT:=⟨Rd.mono hr ((((uX _).alloc _).alloc _).alloc _),hb⟩
 have hG:Grew w (((((w.alloc (.cells [.slice (some ⟨w.heap.size+1,0,none⟩) 1 1,.slice (some ⟨w.heap.size+1+1+1+1,0,none⟩) 4 4].toArray 35)).alloc (.cells #[.int .i64 1] 3)).alloc (.cells #[.int .i64 2,.int .i64 5] 3)).alloc (.cells #[.int .i64 9] 3)).alloc (.cells #[.int .i64 1,.int .i64 0,.int .i64 1,.string ⟨#[84,111,119,110]⟩,.string ⟨#[84]⟩,.slice (some ⟨w.heap.size+1+1,0,none⟩) 2 2,.int .i64 2,.int .i64 1,.int .i64 2,.string ⟨#[65,99,116,115]⟩,.string ⟨#[]⟩,.slice (some ⟨w.heap.size+1+1+1,0,none⟩) 1 1,.int .i64 5,.int .i64 1,.int .i64 2,.string ⟨#[80,108,97,110,115]⟩,.string ⟨#[]⟩,.slice none 0 0,.int .i64 9,.int .i64 2,.int .i64 3,.string ⟨#[77,105,108,108]⟩,.string ⟨#[84,45,57]⟩,.slice none 0 0] 53)):=(((((uX w).alloc _).alloc _).alloc _).alloc _).alloc _
 have q0:=yQ (w:=w) (show Grew (w.alloc (.cells [.slice (some ⟨w.heap.size+1,0,none⟩) 1 1,.slice (some ⟨w.heap.size+1+1+1+1,0,none⟩) 4 4].toArray 35)) (((((w.alloc (.cells [.slice (some ⟨w.heap.size+1,0,none⟩) 1 1,.slice (some ⟨w.heap.size+1+1+1+1,0,none⟩) 4 4].toArray 35)).alloc (.cells #[.int .i64 1] 3)).alloc (.cells #[.int .i64 2,.int .i64 5] 3)).alloc (.cells #[.int .i64 9] 3)).alloc (.cells #[.int .i64 1,.int .i64 0,.int .i64 1,.string ⟨#[84,111,119,110]⟩,.string ⟨#[84]⟩,.slice (some ⟨w.heap.size+1+1,0,none⟩) 2 2,.int .i64 2,.int .i64 1,.int .i64 2,.string ⟨#[65,99,116,115]⟩,.string ⟨#[]⟩,.slice (some ⟨w.heap.size+1+1+1,0,none⟩) 1 1,.int .i64 5,.int .i64 1,.int .i64 2,.string ⟨#[80,108,97,110,115]⟩,.string ⟨#[]⟩,.slice none 0 0,.int .i64 9,.int .i64 2,.int .i64 3,.string ⟨#[77,105,108,108]⟩,.string ⟨#[84,45,57]⟩,.slice none 0 0] 53)) from((((uX _).alloc _).alloc _).alloc _).alloc _) 0 _ rfl
 have q1:=yQ (w:=w) (show Grew (w.alloc (.cells [.slice (some ⟨w.heap.size+1,0,none⟩) 1 1,.slice (some ⟨w.heap.size+1+1+1+1,0,none⟩) 4 4].toArray 35)) (((((w.alloc (.cells [.slice (some ⟨w.heap.size+1,0,none⟩) 1 1,.slice (some ⟨w.heap.size+1+1+1+1,0,none⟩) 4 4].toArray 35)).alloc (.cells #[.int .i64 1] 3)).alloc (.cells #[.int .i64 2,.int .i64 5] 3)).alloc (.cells #[.int .i64 9] 3)).alloc (.cells #[.int .i64 1,.int .i64 0,.int .i64 1,.string ⟨#[84,111,119,110]⟩,.string ⟨#[84]⟩,.slice (some ⟨w.heap.size+1+1,0,none⟩) 2 2,.int .i64 2,.int .i64 1,.int .i64 2,.string ⟨#[65,99,116,115]⟩,.string ⟨#[]⟩,.slice (some ⟨w.heap.size+1+1+1,0,none⟩) 1 1,.int .i64 5,.int .i64 1,.int .i64 2,.string ⟨#[80,108,97,110,115]⟩,.string ⟨#[]⟩,.slice none 0 0,.int .i64 9,.int .i64 2,.int .i64 3,.string ⟨#[77,105,108,108]⟩,.string ⟨#[84,45,57]⟩,.slice none 0 0] 53)) from((((uX _).alloc _).alloc _).alloc _).alloc _) 1 _ rfl
 have HT:=uZ hT
 have HG:=uZ hG
 clear hb hr hT hG
 go_enter Tryz.func37,Tryz.ntmps37
 go_wp2_with fail
 refine bodyPost_ret (v:=.agg #[.slice (some ⟨w.heap.size+1,0,none⟩) 1 1,.slice (some ⟨w.heap.size+1+1+1+1,0,none⟩) 4 4]) (by simp[results,Tryz.results37,go_sem,q0,q1]) rfl ?_
 exact⟨_,_,rfl,HT.out,HG.out⟩
end Go.Proofs.YtafncfomiolmgaaGreatDoor