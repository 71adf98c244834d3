/- Lemmas on what the functions of the program and of the library compute: UnG0. The conditions stand at each. -/
import Derived.Test.YtdochkemaiokfaaGreatQ29
/- The keeper's record as it is written, field by field. No condition. -/
namespace Go.Proofs.YtdochkemaiokfaaGreat
open Go.RowKit Go.Maps
structure KpOpen (w0:World) (KB MB:Nat) (E:Option Addr) (e1 e2:Nat) (A:Option Addr) (a1 a2:Nat) (B:Option Addr) (b1 b2:Nat) (C:Option Addr) (c1 c2:Nat) (W:World):Prop where
 g:Grew w0 W
 kb:w0.heap.size≤KB
 mb:w0.heap.size≤MB
 cell:W.heap[KB]? = some (.cells #[.slice E e1 e2,.slice A a1 a2,.slice B b1 b2,.slice C c1 c2,.map (some MB)] 81 (0,0))
section
variable {w0 W W':World} {KB MB:Nat} {E A B C E' A' B' C':Option Addr} {e1 e2 a1 a2 b1 b2 c1 c2 f1 f2 g1 g2 h1 h2:Nat}
theorem KpOpen.nolit (h:KpOpen w0 KB MB E e1 e2 A a1 a2 B b1 b2 C c1 c2 W):NoLit W KB:=noLit_slices h.cell (by simp)
theorem KpOpen.grew (h:KpOpen w0 KB MB E e1 e2 A a1 a2 B b1 b2 C c1 c2 W) (g:Grew W W'):KpOpen w0 KB MB E e1 e2 A a1 a2 B b1 b2 C c1 c2 W':=⟨h.g.trans g,h.kb,h.mb,heapKeep g h.cell⟩
theorem KpOpen.setL (h:KpOpen w0 KB MB E e1 e2 A a1 a2 B b1 b2 C c1 c2 W):KpOpen w0 KB MB E' f1 f2 A a1 a2 B b1 b2 C c1 c2 (W.setCell ⟨KB,0,none⟩ (.slice E' f1 f2)) :=
 ⟨h.g.setCell (p:=⟨KB,0,none⟩) h.kb _,h.kb,h.mb,by simpa using heap_setCell_same W KB 0 _ _ (.slice E' f1 f2) h.cell⟩
theorem KpOpen.setA (h:KpOpen w0 KB MB E e1 e2 A a1 a2 B b1 b2 C c1 c2 W):KpOpen w0 KB MB E e1 e2 A' f1 f2 B b1 b2 C c1 c2 (W.setCell ⟨KB,1,none⟩ (.slice A' f1 f2)) :=
 ⟨h.g.setCell (p:=⟨KB,1,none⟩) h.kb _,h.kb,h.mb,by simpa using heap_setCell_same W KB 1 _ _ (.slice A' f1 f2) h.cell⟩
theorem KpOpen.setB (h:KpOpen w0 KB MB E e1 e2 A a1 a2 B b1 b2 C c1 c2 W):KpOpen w0 KB MB E e1 e2 A a1 a2 B' f1 f2 C c1 c2 (W.setCell ⟨KB,2,none⟩ (.slice B' f1 f2)) :=
 ⟨h.g.setCell (p:=⟨KB,2,none⟩) h.kb _,h.kb,h.mb,by simpa using heap_setCell_same W KB 2 _ _ (.slice B' f1 f2) h.cell⟩
theorem KpOpen.setC (h:KpOpen w0 KB MB E e1 e2 A a1 a2 B b1 b2 C c1 c2 W):KpOpen w0 KB MB E e1 e2 A a1 a2 B b1 b2 C' f1 f2 (W.setCell ⟨KB,3,none⟩ (.slice C' f1 f2)) :=
 ⟨h.g.setCell (p:=⟨KB,3,none⟩) h.kb _,h.kb,h.mb,by simpa using heap_setCell_same W KB 3 _ _ (.slice C' f1 f2) h.cell⟩
theorem KpOpen.turn {X:Nat} (h:KpOpen w0 KB MB E e1 e2 A a1 a2 B b1 b2 C c1 c2 W) (hg:W.grownBy W' (some X)) (hX:w0.heap.size≤X) (hne:KB≠X):KpOpen w0 KB MB E e1 e2 A a1 a2 B b1 b2 C c1 c2 W' :=
 ⟨Below.grown h.g hg h.g.size (fun k e=>by cases e;exact hX),h.kb,h.mb,heapTurn hg h.cell (fun r e k=>by cases e;exact hne k.symm)⟩
theorem KpOpen.facts (h:KpOpen w0 KB MB E e1 e2 A a1 a2 B b1 b2 C c1 c2 W):W.cell? ⟨KB,0,none⟩=some (.slice E e1 e2)∧W.cell? ⟨KB,1,none⟩=some (.slice A a1 a2)∧W.cell? ⟨KB,2,none⟩=some (.slice B b1 b2)∧W.cell? ⟨KB,3,none⟩=some (.slice C c1 c2)∧W.cell? ⟨KB,4,none⟩=some (.map (some MB))∧W.frozen? ⟨KB,0,none⟩=false∧W.frozen? ⟨KB,1,none⟩=false∧W.frozen? ⟨KB,2,none⟩=false∧W.frozen? ⟨KB,3,none⟩=false :=
 ⟨cellOf h.cell rfl,cellOf h.cell rfl,cellOf h.cell rfl,cellOf h.cell rfl,cellOf h.cell rfl,freeOf h.cell,freeOf h.cell,freeOf h.cell,freeOf h.cell⟩
end
structure KpVal (KB MB:Nat) (l:List Opn) (t:Tr) (lc:List Cm) (lo:List Opn) (lv rv bv cv:Value) (W:World):Prop where
 l:SlO W lv l
 t:TrOk W rv bv t
 c:SlC W cv lc
 o:∃ n D,W.ownsMap Tryz.prog 9 (plainElem Tryz.prog 3) MB n D∧n≤lo.length∧OwnM lo D
section
variable {W W':World} {KB MB:Nat} {l lo:List Opn} {t:Tr} {lc:List Cm} {lv rv bv cv:Value}
theorem KpVal.grew (h:KpVal KB MB l t lc lo lv rv bv cv W) (g:Grew W W'):KpVal KB MB l t lc lo lv rv bv cv W':=by
 obtain⟨n,D,h1,h2⟩:=h.o
 exact⟨h.l.mono g,h.t.mono g,h.c.mono g,n,D,mapLat h1 g,h2⟩
theorem KpVal.set {X o:Nat} {v:Value} (h:KpVal KB MB l t lc lo lv rv bv cv W) (hX:NoLit W X) (hne:MB≠X):KpVal KB MB l t lc lo lv rv bv cv (W.setCell ⟨X,o,none⟩ v):=by
 obtain⟨n,D,h1,h2⟩:=h.o
 exact⟨h.l.turn (Turns.set hX _ _),h.t.turn (Turns.set hX _ _),h.c.turn (Turns.set hX _ _),n,D,h1.setCell (a:=⟨X,o,none⟩) hne _,h2⟩
end
theorem KeepAt.open_ {w0 W:World} {KB MB:Nat} {l:List Opn} {t:Tr} (h:KeepAt w0 KB MB l t W):∃ E k A n c B m d C q,KpOpen w0 KB MB E l.length k A n c B m d C (evidF l).length q W∧KpVal KB MB l t (evidF l) l (.slice E l.length k) (.slice A n c) (.slice B m d) (.slice C (evidF l).length q) W:=by
 obtain⟨A,n,c,B,m,d,E,k,f,C,q,h1,-,h3,h4,h5⟩:=h.cell
 exact⟨E,k,A,n,c,B,m,d,C,q,⟨h.g,h.kb,h.mb,h1⟩,h3,h4,h5,h.owns⟩
theorem KeepAt.shut {w0 W:World} {KB MB:Nat} {l:List Opn} {t:Tr} {E A B C:Option Addr} {k n c m d q:Nat} (h:KpOpen w0 KB MB E l.length k A n c B m d C (evidF l).length q W) (h2:KpVal KB MB l t (evidF l) l (.slice E l.length k) (.slice A n c) (.slice B m d) (.slice C (evidF l).length q) W):KeepAt w0 KB MB l t W :=
 ⟨h.g,h.kb,h.mb,⟨A,n,c,B,m,d,E,k,0,C,q,h.cell,rfl,h2.l,h2.t,h2.c⟩,h2.o⟩
theorem kb_ne_mb {w0 W:World} {KB MB:Nat} {l:List Opn} {t:Tr} (h:KeepAt w0 KB MB l t W):MB≠KB:=by
 obtain⟨A,n,c,B,m,d,E,k,f,C,q,h1,-⟩:=h.cell
 obtain⟨n2,D,⟨es,clock,h2,-⟩,-⟩:=h.owns
 intro e
 rw[e,h1] at h2
 cases h2
end Go.Proofs.YtdochkemaiokfaaGreat