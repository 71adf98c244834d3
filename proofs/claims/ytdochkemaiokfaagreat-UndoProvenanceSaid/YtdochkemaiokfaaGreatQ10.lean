/- Lemmas on what the functions of the program and of the library compute: PlainUa, TypesU, EqO, EqU, EqM, UnM, Bw1, Bw2, Bw3. The conditions stand at each. -/
import Derived.Test.YtdochkemaiokfaaGreatQ8
import Derived.Test.YtdochkemaiokfaaGreatProg
import Derived.Test.YtdochkemaiokfaaGreatQ1
import Derived.Test.YtdochkemaiokfaaGreatQ9
import Derived.Test.YtdochkemaiokfaaGreatQ3
import Derived.Test.YtdochkemaiokfaaGreatQ5
import Derived.Test.YtdochkemaiokfaaGreatT7Q
import Derived.Laws.Rows
import Derived.Test.YtdochkemaiokfaaGreatQ4
import Derived.RangeFuncLeaves
import Derived.RangeFuncBox
import Derived.OwnWalkIn
import Derived.TacticsInMore
import Derived.LoopNIn
import Derived.LoopIn
import Derived.Maps.AppendAt
import Derived.Laws.EntriesVeiled
/- A log of operations and what follows from it, plainly. No condition. -/
namespace Go.Proofs.YtdochkemaiokfaaGreat
open Go.RowKit
def undoneF (l:List Opn) (id:Int):Bool:=(l.countP fun o=>o.kind == 6 && o.unit == id) % 2 == 1
def countsB (l:List Opn) (o:Opn):Bool:=o.kind != 6 && !undoneF l o.id
def countI (l:List Opn):List (Int × Opn):=(((List.range l.length).map fun(i:Nat)=>(i:Int)).zip l).filter fun p=>countsB l p.2
noncomputable def replayI:List (Int × Opn)→Tr→Tr × Int × Int
 | [],t=>(t,-1,0)
 | (i,o)::r,t=>if (applyR t o).2=0 then replayI r (applyR t o).1 else(⟨[],[]⟩,i,(applyR t o).2)
noncomputable def replayF (l:List Opn):Tr × Int × Int:=replayI (countI l) ⟨[],[]⟩
structure Cm where
 unit:Int
 office:Int
 acc:Int
 num:Int
deriving DecidableEq
def Opn.came (o:Opn):Cm:=⟨o.unit,o.office,o.acc,o.num⟩
def insCm (c:Cm):List Cm→List Cm
 | []=>[c]
 | x::r=>if x.unit<c.unit then x::insCm c r else c::x::r
def evidF (l:List Opn):List Cm:=(l.filter fun o=>o.kind == 1).foldl (fun out o=>insCm o.came out) []
def marksB (o:Opn):Bool:=(o.kind == 1 || o.kind == 4) && !o.mark.toList.isEmpty
def ownerF (l:List Opn) (m:ByteArray):Option Int:=(l.reverse.find? fun o=>marksB o && decide (o.mark=m)).map (·.unit)
def clashF (l:List Cm) (c:Cm):Int :=
 if c.acc=0 then 0 else if l.any (fun x=>x.acc == c.acc && x.num == c.num)=true then 6 else if l.any (fun x=>x.acc == c.acc && x.office != c.office)=true then 10 else 0
def aloneC (c:Cm):Bool:=within c.unit 1 1073741824 && (within c.office 0 1073741824 && ((within c.acc 1 1073741824 && within c.num 1 9999) || (c.acc == 0 && c.num == 0)))
def rightC:List Cm→List Cm→Bool
 | _,[]=>true
 | pre,c::r=>aloneC c && ((match pre.getLast? with|none=>true|some p=>decide (p.unit<c.unit)) && (clashF pre c == 0 && rightC (pre++[c]) r))
def addE (l:List Cm) (c:Cm):Int :=
 if 256<l.length∨rightC [] l=false then 1 else if aloneC c=false then 2 else if l.any (fun x=>x.unit == c.unit)=true then 6 else if clashF l c≠0 then clashF l c else if 256≤l.length then 8 else 0
def findO (l:List Opn) (id:Int):Option Opn:=l.find? fun o=>o.id == id && o.kind != 6
def lateB (l:List Opn) (o:Opn):Bool:=match l.getLast? with
 | none=>false
 | some p=>decide (o.id≤p.id) || decide (o.day<p.day)
def otherB (l:List Opn) (o:Opn):Bool:=match ownerF l o.mark with
 | none=>false
 | some u=>u != o.unit
def faultK (l:List Opn) (o:Opn):Int :=
 if 512≤l.length then 8 else if formedO o=false then 1 else if lateB l o=true then 5
 else if o.kind=1∧addE (evidF l) o.came≠0 then addE (evidF l) o.came
 else if (marksB o && otherB l o)=true then 19
 else if o.kind=5∧(evidF l).any (fun x=>x.unit == o.unit && x.acc != 0)=true then 21
 else if o.kind=6 then match findO l o.unit with
  | none=>7
  | some p=>if p.kind=1∧p.acc≠0∧countsB l p=true then 21 else 0
 else 0
noncomputable def admitT (l:List Opn) (t:Tr) (o:Opn):Tr × Int × Int :=
 if faultK l o≠0 then(t,-1,faultK l o)
 else if o.kind=6 then(if (replayF (l++[o])).2.2≠0 then(t,(replayF (l++[o])).2.1,20) else((replayF (l++[o])).1,-1,0))
 else if (applyR t o).2≠0 then(t,(l.length:Int),(applyR t o).2) else((applyR t o).1,-1,0)
noncomputable def keepI:List Opn→List Opn→Tr→Tr × Int × Int
 | _,[],t=>(t,-1,0)
 | pre,o::r,t=>if (admitT pre t o).2.2=0 then keepI (pre++[o]) r (admitT pre t o).1 else(⟨[],[]⟩,(pre.length:Int),(admitT pre t o).2.2)
noncomputable def keepF (l:List Opn):Tr × Int × Int:=keepI [] l ⟨[],[]⟩
end Go.Proofs.YtdochkemaiokfaaGreat
/- The data of logs, evidence and ledgers, and how they lie in memory. No condition. -/
namespace Go.Proofs.YtdochkemaiokfaaGreat
open Go.RowKit
def SlO (w:World) (v:Value) (l:List Opn):Prop:=Rd w 12 v (l.flatMap Opn.cells)
theorem SlO.mono {w w':World} {v:Value} {l:List Opn} (h:SlO w v l) (hg:Grew w w'):SlO w' v l:=Rd.mono h hg
theorem SlO.nil (w:World):SlO w (.slice none 0 0) []:=Rd.nil w _
theorem SlO.open_ {w : World} {v : Value} {l : List Opn} (h : SlO w v l) : ∃ (A : Option Addr) (c : Nat), v = .slice A l.length c ∧ l.length ≤ c ∧ c ≤ maxLen ∧
      (0 < l.length → ∃ b off, A = some ⟨b, off, none⟩ ∧ b < w.heap.size ∧ ∀ W, Grew w W → ∀ i (hi : i < l.length), W.cell? ⟨b, off + i * 12, none⟩ = some (.int .i64 l[i].id) ∧ W.cell? ⟨b, off + i * 12 + 1, none⟩ = some (.int .i64 l[i].day) ∧ W.cell? ⟨b, off + i * 12 + 2, none⟩ = some (.int .i64 l[i].kind) ∧ W.cell? ⟨b, off + i * 12 + 3, none⟩ = some (.int .i64 l[i].unit) ∧ W.cell? ⟨b, off + i * 12 + 4, none⟩ = some (.int .i64 l[i].parent) ∧ W.cell? ⟨b, off + i * 12 + 5, none⟩ = some (.int .i64 l[i].before) ∧ W.cell? ⟨b, off + i * 12 + 6, none⟩ = some (.int .i64 l[i].level) ∧ W.cell? ⟨b, off + i * 12 + 7, none⟩ = some (.string l[i].title) ∧ W.cell? ⟨b, off + i * 12 + 8, none⟩ = some (.string l[i].mark) ∧ W.cell? ⟨b, off + i * 12 + 9, none⟩ = some (.int .i64 l[i].office) ∧ W.cell? ⟨b, off + i * 12 + 10, none⟩ = some (.int .i64 l[i].acc) ∧ W.cell? ⟨b, off + i * 12 + 11, none⟩ = some (.int .i64 l[i].num)) := by
 obtain⟨A,c,hv,hn,hm,hr⟩:=Rd.open_ (k:=12) (f:=Opn.cells) (fun _=>rfl) (by omega) h
 refine⟨A,c,hv,hn,hm,fun h0=>?_⟩
 obtain⟨b,off,hA,hb,hc⟩:=hr h0
 exact⟨b,off,hA,hb,fun W hW i hi=>⟨by simpa [Opn.cells] using hc W hW i hi 0 (by omega),by simpa [Opn.cells] using hc W hW i hi 1 (by omega),by simpa [Opn.cells] using hc W hW i hi 2 (by omega),by simpa [Opn.cells] using hc W hW i hi 3 (by omega),by simpa [Opn.cells] using hc W hW i hi 4 (by omega),by simpa [Opn.cells] using hc W hW i hi 5 (by omega),by simpa [Opn.cells] using hc W hW i hi 6 (by omega),by simpa [Opn.cells] using hc W hW i hi 7 (by omega),by simpa [Opn.cells] using hc W hW i hi 8 (by omega),by simpa [Opn.cells] using hc W hW i hi 9 (by omega),by simpa [Opn.cells] using hc W hW i hi 10 (by omega),by simpa [Opn.cells] using hc W hW i hi 11 (by omega)⟩⟩
def Cm.cells (x:Cm):List Value:=[.int .i64 x.unit,.int .i64 x.office,.int .i64 x.acc,.int .i64 x.num]
def Cm.agg (x:Cm):Value:=.agg #[.int .i64 x.unit,.int .i64 x.office,.int .i64 x.acc,.int .i64 x.num]
def SlC (w:World) (v:Value) (l:List Cm):Prop:=Rd w 4 v (l.flatMap Cm.cells)
theorem SlC.mono {w w':World} {v:Value} {l:List Cm} (h:SlC w v l) (hg:Grew w w'):SlC w' v l:=Rd.mono h hg
theorem SlC.nil (w:World):SlC w (.slice none 0 0) []:=Rd.nil w _
theorem SlC.open_ {w : World} {v : Value} {l : List Cm} (h : SlC w v l) : ∃ (A : Option Addr) (c : Nat), v = .slice A l.length c ∧ l.length ≤ c ∧ c ≤ maxLen ∧
      (0 < l.length → ∃ b off, A = some ⟨b, off, none⟩ ∧ b < w.heap.size ∧ ∀ W, Grew w W → ∀ i (hi : i < l.length), W.cell? ⟨b, off + i * 4, none⟩ = some (.int .i64 l[i].unit) ∧ W.cell? ⟨b, off + i * 4 + 1, none⟩ = some (.int .i64 l[i].office) ∧ W.cell? ⟨b, off + i * 4 + 2, none⟩ = some (.int .i64 l[i].acc) ∧ W.cell? ⟨b, off + i * 4 + 3, none⟩ = some (.int .i64 l[i].num)) := by
 obtain⟨A,c,hv,hn,hm,hr⟩:=Rd.open_ (k:=4) (f:=Cm.cells) (fun _=>rfl) (by omega) h
 refine⟨A,c,hv,hn,hm,fun h0=>?_⟩
 obtain⟨b,off,hA,hb,hc⟩:=hr h0
 exact⟨b,off,hA,hb,fun W hW i hi=>⟨by simpa [Cm.cells] using hc W hW i hi 0 (by omega),by simpa [Cm.cells] using hc W hW i hi 1 (by omega),by simpa [Cm.cells] using hc W hW i hi 2 (by omega),by simpa [Cm.cells] using hc W hW i hi 3 (by omega)⟩⟩
structure Mk where
 mark:ByteArray
 unit:Int
deriving DecidableEq,Inhabited
def Mk.cells (x:Mk):List Value:=[.string x.mark,.int .i64 x.unit]
def Mk.agg (x:Mk):Value:=.agg #[.string x.mark,.int .i64 x.unit]
def SlM (w:World) (v:Value) (l:List Mk):Prop:=Rd w 2 v (l.flatMap Mk.cells)
theorem SlM.mono {w w':World} {v:Value} {l:List Mk} (h:SlM w v l) (hg:Grew w w'):SlM w' v l:=Rd.mono h hg
theorem SlM.nil (w:World):SlM w (.slice none 0 0) []:=Rd.nil w _
theorem SlM.open_ {w : World} {v : Value} {l : List Mk} (h : SlM w v l) : ∃ (A : Option Addr) (c : Nat), v = .slice A l.length c ∧ l.length ≤ c ∧ c ≤ maxLen ∧
      (0 < l.length → ∃ b off, A = some ⟨b, off, none⟩ ∧ b < w.heap.size ∧ ∀ W, Grew w W → ∀ i (hi : i < l.length), W.cell? ⟨b, off + i * 2, none⟩ = some (.string l[i].mark) ∧ W.cell? ⟨b, off + i * 2 + 1, none⟩ = some (.int .i64 l[i].unit)) := by
 obtain⟨A,c,hv,hn,hm,hr⟩:=Rd.open_ (k:=2) (f:=Mk.cells) (fun _=>rfl) (by omega) h
 refine⟨A,c,hv,hn,hm,fun h0=>?_⟩
 obtain⟨b,off,hA,hb,hc⟩:=hr h0
 exact⟨b,off,hA,hb,fun W hW i hi=>⟨by simpa [Mk.cells] using hc W hW i hi 0 (by omega),by simpa [Mk.cells] using hc W hW i hi 1 (by omega)⟩⟩
end Go.Proofs.YtdochkemaiokfaaGreat
/- Two operations are equal, or not: the comparison, field by field. No condition. -/
namespace Go.Proofs.YtdochkemaiokfaaGreat
open Go.RowKit
theorem ifok {p:Prop} [Decidable p] {q b:Bool} {X:Result Value} {w:World} (h:X=.ok (.bool b) w) (hq:q=decide p:=by first|rfl|rw[Bool.eq_iff_iff,beq_iff_eq,decide_eq_true_eq]):(if p then X else .ok (.bool false) w)=.ok (.bool (q && b)) w:=by
 subst hq
 by_cases hp:p
 ·rw[if_pos hp,h,decide_eq_true hp]
  rfl
 ·rw[if_neg hp,decide_eq_false hp]
  rfl
theorem iflast {p:Prop} [Decidable p] {q:Bool} {w:World} (hq:q=decide p:=by first|rfl|rw[Bool.eq_iff_iff,beq_iff_eq,decide_eq_true_eq]):(if p then Result.ok (Value.bool true) w else .ok (.bool false) w)=.ok (.bool q) w:=by
 subst hq
 by_cases hp:p
 ·rw[if_pos hp,decide_eq_true hp]
 ·rw[if_neg hp,decide_eq_false hp]
@[go_sem ↓] theorem eqlO (w:World) (x0 y0 x1 y1 x2 y2 x3 y3 x4 y4 x5 y5 x6 y6:Int) (x7 y7 x8 y8:ByteArray) (x9 y9 x10 y10 x11 y11:Int):(binOp .eql 26 (.agg #[.int .i64 x0,.int .i64 x1,.int .i64 x2,.int .i64 x3,.int .i64 x4,.int .i64 x5,.int .i64 x6,.string x7,.string x8,.int .i64 x9,.int .i64 x10,.int .i64 x11]) (.agg #[.int .i64 y0,.int .i64 y1,.int .i64 y2,.int .i64 y3,.int .i64 y4,.int .i64 y5,.int .i64 y6,.string y7,.string y8,.int .i64 y9,.int .i64 y10,.int .i64 y11])).run Tryz.prog w=.ok (.bool ((x0 == y0) && ((x1 == y1) && ((x2 == y2) && ((x3 == y3) && ((x4 == y4) && ((x5 == y5) && ((x6 == y6) && ((x7.toList == y7.toList) && ((x8.toList == y8.toList) && ((x9 == y9) && ((x10 == y10) && (x11 == y11))))))))))))) w:=by
 have hS:Tryz.prog.underlying 26=some (.struct (Tryz.prog.fieldsOf 26)):=by kernel_rfl
 have hp:Tryz.prog.stoodInHeld 26=false:=by kernel_rfl
 rw[run_eql_struct,show(10000:Nat)=9999+1 from rfl,run_equalIn_agg w 9999 26 _ _ hS hp]
 simp only [Program.fieldsOf,Tryz.underlying26]
 go_simp
 exact ifok (ifok (ifok (ifok (ifok (ifok (ifok (ifok (ifok (ifok (ifok iflast))))))))))
end Go.Proofs.YtdochkemaiokfaaGreat
/- Two units are equal, or not: the comparison, field by field; and whether a unit is the same in two trees. No condition. -/
namespace Go.Proofs.YtdochkemaiokfaaGreat
open Go.RowKit
@[go_sem ↓] theorem neqU (w:World) (x0 y0 x1 y1 x2 y2:Int) (x3 y3 x4 y4:ByteArray):(binOp .neq 64 (.agg #[.int .i64 x0,.int .i64 x1,.int .i64 x2,.string x3,.string x4]) (.agg #[.int .i64 y0,.int .i64 y1,.int .i64 y2,.string y3,.string y4])).run Tryz.prog w=.ok (.bool (!((x0 == y0) && ((x1 == y1) && ((x2 == y2) && ((x3.toList == y3.toList) && (x4.toList == y4.toList))))))) w:=by
 have hS:Tryz.prog.underlying 64=some (.struct (Tryz.prog.fieldsOf 64)):=by kernel_rfl
 have hp:Tryz.prog.stoodInHeld 64=false:=by kernel_rfl
 rw[run_neq_struct,show(10000:Nat)=9999+1 from rfl,run_equalIn_agg w 9999 64 _ _ hS hp]
 simp only [Program.fieldsOf,Tryz.underlying64]
 go_simp
 by_cases h0:x0=y0
 ·by_cases h1:x1=y1
  ·by_cases h2:x2=y2
   ·by_cases h3:x3.toList=y3.toList
    ·by_cases h4:x4.toList=y4.toList<;>simp[h0,h1,h2,h3,h4]
    ·simp[h0,h1,h2,h3]
   ·simp[h0,h1,h2]
  ·simp[h0,h1]
 ·simp[h0]
theorem toList_injU {x y:ByteArray}:x.toList=y.toList↔x=y:=by
 rw[ByteArray.toList_eq,ByteArray.toList_eq]
 constructor
 ·intro h
  obtain⟨⟨a⟩⟩:=x
  obtain⟨⟨b⟩⟩:=y
  simpa using h
 ·exact fun h=>by rw[h]
end Go.Proofs.YtdochkemaiokfaaGreat
/- slices.Equal at the ledger's lines. No condition. -/
namespace Go.Proofs.YtdochkemaiokfaaGreat
open Go.RowKit
@[go_sem ↓] theorem eqlM (w:World) (x0 y0:ByteArray) (x1 y1:Int):(binOp .eql 62 (.agg #[.string x0,.int .i64 x1]) (.agg #[.string y0,.int .i64 y1])).run Tryz.prog w=.ok (.bool (decide ((⟨x0,x1⟩:Mk)=(⟨y0,y1⟩:Mk)))) w:=by
 have hS:Tryz.prog.underlying 62=some (.struct (Tryz.prog.fieldsOf 62)):=by kernel_rfl
 have hp:Tryz.prog.stoodInHeld 62=false:=by kernel_rfl
 rw[run_eql_struct,show(10000:Nat)=9999+1 from rfl,run_equalIn_agg w 9999 62 _ _ hS hp]
 simp only [Program.fieldsOf,Tryz.underlying62]
 go_simp
 try simp only [Mk.mk.injEq]
 by_cases h0:x0=y0<;>by_cases h1:x1=y1<;>simp[*,toList_injU]
@[go_sem ↓] theorem neqM (w:World) (x0 y0:ByteArray) (x1 y1:Int):(binOp .neq 62 (.agg #[.string x0,.int .i64 x1]) (.agg #[.string y0,.int .i64 y1])).run Tryz.prog w=.ok (.bool (!decide ((⟨x0,x1⟩:Mk)=(⟨y0,y1⟩:Mk)))) w:=by
 have hS:Tryz.prog.underlying 62=some (.struct (Tryz.prog.fieldsOf 62)):=by kernel_rfl
 have hp:Tryz.prog.stoodInHeld 62=false:=by kernel_rfl
 rw[run_neq_struct,show(10000:Nat)=9999+1 from rfl,run_equalIn_agg w 9999 62 _ _ hS hp]
 simp only [Program.fieldsOf,Tryz.underlying62]
 go_simp
 try simp only [Mk.mk.injEq]
 by_cases h0:x0=y0<;>by_cases h1:x1=y1<;>simp[*,toList_injU]
set_option maxHeartbeats 2000000 in
theorem equalM (l m:List Mk) (v u:Value) (w:World) (hv:SlM w v l) (hu:SlM w u m) :
  Calls Tryz.prog 41 #[v,u] w fun e w'=>e=.returned (.bool (decide (l=m)))∧Grew w w':=by
 obtain⟨A,c,rfl,hlc,hc,hr⟩:=hv.open_
 obtain⟨A',c',rfl,hlc',hc',hr'⟩:=hu.open_
 unfold maxLen at hc hc'
 have HR:=Lib.hid hr
 have HR':=Lib.hid hr'
 clear hr hr' hv hu
 by_cases hl:l.length=m.length
 case neg =>
  have hd:decide (l=m)=false:=by rw[decide_eq_false_iff_not];exact fun h=>hl (by rw[h])
  rw[hd]
  have hne:((l.length:Int) != (m.length:Int))=true:=by rw[bne_iff_ne];omega
  clear hl hd
  go_enter Tryz.func41,Tryz.ntmps41
  go_wp2
  go_ret
  exact⟨rfl,Grew.refl w⟩
 have hne:((l.length:Int) != (m.length:Int))=false:=by rw[bne_eq_false_iff_eq];omega
 generalize hD:decide (l=m)=D
 have HD:=Lib.hid hD
 have HL:=Lib.hid hl
 clear hD hl
 go_enter Tryz.func41,Tryz.ntmps41
 go_wp2
 go_loopg [5,13] l.length (fun gg _ s wr=>∃ kk:Nat,kk≤l.length∧l.length-kk≤gg∧s=.int .i64 kk∧Aside (Grew w wr)∧Aside (l.take kk=m.take kk))
 case atStart=>exact⟨0,Nat.zero_le _,by omega,rfl,Grew.refl w,rfl⟩
 case round =>
  obtain⟨kk,hkk,hg,rfl,BW,M⟩:=hrel
  by_cases hlt:kk<l.length
  ·have hlt2:kk<m.length:=by have:=HL.out;omega
   have hltz:(kk:Int)<(l.length:Int):=by omega
   have hltz2:(kk:Int)<(m.length:Int):=by omega
   obtain⟨b,off,rfl,hb,hcell⟩:=HR.out (by omega)
   obtain⟨b',off',rfl,hb',hcell'⟩:=HR'.out (by omega)
   obtain⟨c0,c1⟩:=hcell wr BW.out kk hlt
   obtain⟨d0,d1⟩:=hcell' wr BW.out kk hlt2
   clear hcell hcell'
   have Hstep:RowKit.Hid (l[kk]=m[kk]→l.take (kk+1)=m.take (kk+1)):=fun h=>by rw[List.take_succ_eq_append_getElem hlt,List.take_succ_eq_append_getElem hlt2,M.out,h]
   have Hbad:RowKit.Hid (l[kk]≠m[kk]→D=false):=fun h=>by
    rw[← HD.out,decide_eq_false_iff_not]
    exact fun e=>h (by simp[e])
   generalize l[kk]=x at c0 c1 Hstep Hbad
   generalize m[kk]=y at d0 d1 Hstep Hbad
   by_cases hxy:x=y
   ·have Hs:=Lib.hid (Hstep.out hxy)
    subst hxy
    clear Hstep Hbad
    obtain⟨x0,x1⟩:=x
    dsimp only at c0 c1 d0 d1
    go_wp2
    go_quiet (fail)
    go_wp2
    go_roundg (l.length-(kk+1))
    case measure=>omega
    case rel=>exact⟨kk+1,by omega,by omega,by go_num,(show Aside _ from BW.out.drewN _),(show Aside _ from Hs.out)⟩
   ·have Hs:=Lib.hid (Hbad.out hxy)
    have hq0:=Lib.hid hxy
    clear hxy Hstep Hbad
    obtain⟨x0,x1⟩:=x
    obtain⟨y0,y1⟩:=y
    dsimp only at c0 c1 d0 d1
    have hq1:(!decide (x0=y0) || (!decide (x1=y1)))=true:=by
     have h:=hq0.out
     simp only [Mk.mk.injEq] at h
     simp
     by_cases g0:x0=y0<;>by_cases g1:x1=y1<;>simp_all
    clear hq0
    go_wp2
    go_quiet (fail)
    go_wp2
    go_ret
    exact⟨ret_bool Hs.out.symm,BW.out.drewN _⟩
  ·have hltz:¬ (kk:Int)<(l.length:Int):=by omega
   have Hs:RowKit.Hid (D=true):=by
    have h:=M.out
    rw[List.take_of_length_le (by omega),List.take_of_length_le (by have:=HL.out;omega)] at h
    show D=true
    rw[← HD.out,decide_eq_true_iff]
    exact h
   go_wp2
   go_ret
   exact⟨ret_bool Hs.out.symm,BW.out⟩
end Go.Proofs.YtdochkemaiokfaaGreat
/- What lists of numbers and structs read as stays where a block that holds none of them is written. No condition. -/
namespace Go.Proofs.YtdochkemaiokfaaGreat
open Go.RowKit
theorem grownSet (W:World) (b o:Nat) (v:Value):W.grownBy (W.setCell ⟨b,o,none⟩ v) (some b) :=
 ⟨rfl,rfl,rfl,by simp,fun k _ hne=>Below.heap_setCell _ _ _ _ (fun e=>hne (by rw[e]))⟩
theorem heapNew (a:World) (p:Obj):(a.alloc p).heap[a.heap.size]? = some p:=World.alloc_heap_new a p
theorem heapKeep {W W':World} (g:Grew W W') {X:Nat} {o:Obj} (h:W.heap[X]? = some o):W'.heap[X]? = some o:=by
 rw[g.block X (Array.getElem?_eq_some_iff.1 h).1]
 exact h
theorem cellOf {W:World} {P i:Nat} {t:TypeId} {fr:Nat × Nat} {xs:Array Value} {x:Value} (h:W.heap[P]? = some (.cells xs t fr)) (hx:xs[i]? = some x):W.cell? ⟨P,i,none⟩=some x:=by
 simp[World.cell?,h,hx]
theorem freeOf {W:World} {P i:Nat} {t:TypeId} {xs:Array Value} (h:W.heap[P]? = some (.cells xs t (0,0))):W.frozen? ⟨P,i,none⟩=false:=by
 simp[World.frozen?,h]
theorem set2 {W:World} {P:Nat} {t:TypeId} {x0 x1:Value} (h:W.heap[P]? = some (.cells #[x0,x1] t (0,0))) (y0 y1:Value):((W.setCell ⟨P,0,none⟩ y0).setCell ⟨P,1,none⟩ y1).heap[P]? = some (.cells #[y0,y1] t (0,0)):=by
 have h1:=heap_setCell_same W P 0 _ t y0 h
 have h2:=heap_setCell_same _ P 1 _ t y1 h1
 simpa using h2
theorem set3 {W:World} {P:Nat} {t:TypeId} {x0 x1 x2:Value} (h:W.heap[P]? = some (.cells #[x0,x1,x2] t (0,0))) (y0 y1 y2:Value):(((W.setCell ⟨P,0,none⟩ y0).setCell ⟨P,1,none⟩ y1).setCell ⟨P,2,none⟩ y2).heap[P]? = some (.cells #[y0,y1,y2] t (0,0)):=by
 have h1:=heap_setCell_same W P 0 _ t y0 h
 have h2:=heap_setCell_same _ P 1 _ t y1 h1
 have h3:=heap_setCell_same _ P 2 _ t y2 h2
 simpa using h3
theorem grew3B {W0 W:World} {P:Nat} (g:Grew W0 W) (hp:W0.heap.size≤P) (y0 y1 y2:Value):Grew W0 (((W.setCell ⟨P,0,none⟩ y0).setCell ⟨P,1,none⟩ y1).setCell ⟨P,2,none⟩ y2) :=
 ((g.setCell (p:=⟨P,0,none⟩) hp _).setCell (p:=⟨P,1,none⟩) hp _).setCell (p:=⟨P,2,none⟩) hp _
theorem set12 {W:World} {P:Nat} {t:TypeId} {x0 x1 x2 x3 x4 x5 x6 x7 x8 x9 x10 x11:Value} (h:W.heap[P]? = some (.cells #[x0,x1,x2,x3,x4,x5,x6,x7,x8,x9,x10,x11] t (0,0))) (y0 y1 y2 y3 y4 y5 y6 y7 y8 y9 y10 y11:Value):((((((((((((W.setCell ⟨P,0,none⟩ y0).setCell ⟨P,1,none⟩ y1).setCell ⟨P,2,none⟩ y2).setCell ⟨P,3,none⟩ y3).setCell ⟨P,4,none⟩ y4).setCell ⟨P,5,none⟩ y5).setCell ⟨P,6,none⟩ y6).setCell ⟨P,7,none⟩ y7).setCell ⟨P,8,none⟩ y8).setCell ⟨P,9,none⟩ y9).setCell ⟨P,10,none⟩ y10).setCell ⟨P,11,none⟩ y11).heap[P]? = some (.cells #[y0,y1,y2,y3,y4,y5,y6,y7,y8,y9,y10,y11] t (0,0)):=by
 have h1:=heap_setCell_same W P 0 _ t y0 h
 have h2:=heap_setCell_same _ P 1 _ t y1 h1
 have h3:=heap_setCell_same _ P 2 _ t y2 h2
 have h4:=heap_setCell_same _ P 3 _ t y3 h3
 have h5:=heap_setCell_same _ P 4 _ t y4 h4
 have h6:=heap_setCell_same _ P 5 _ t y5 h5
 have h7:=heap_setCell_same _ P 6 _ t y6 h6
 have h8:=heap_setCell_same _ P 7 _ t y7 h7
 have h9:=heap_setCell_same _ P 8 _ t y8 h8
 have h10:=heap_setCell_same _ P 9 _ t y9 h9
 have h11:=heap_setCell_same _ P 10 _ t y10 h10
 have h12:=heap_setCell_same _ P 11 _ t y11 h11
 simpa using h12
theorem grew12B {W0 W:World} {P:Nat} (g:Grew W0 W) (hp:W0.heap.size≤P) (y0 y1 y2 y3 y4 y5 y6 y7 y8 y9 y10 y11:Value):Grew W0 ((((((((((((W.setCell ⟨P,0,none⟩ y0).setCell ⟨P,1,none⟩ y1).setCell ⟨P,2,none⟩ y2).setCell ⟨P,3,none⟩ y3).setCell ⟨P,4,none⟩ y4).setCell ⟨P,5,none⟩ y5).setCell ⟨P,6,none⟩ y6).setCell ⟨P,7,none⟩ y7).setCell ⟨P,8,none⟩ y8).setCell ⟨P,9,none⟩ y9).setCell ⟨P,10,none⟩ y10).setCell ⟨P,11,none⟩ y11) :=
 (((((((((((g.setCell (p:=⟨P,0,none⟩) hp _).setCell (p:=⟨P,1,none⟩) hp _).setCell (p:=⟨P,2,none⟩) hp _).setCell (p:=⟨P,3,none⟩) hp _).setCell (p:=⟨P,4,none⟩) hp _).setCell (p:=⟨P,5,none⟩) hp _).setCell (p:=⟨P,6,none⟩) hp _).setCell (p:=⟨P,7,none⟩) hp _).setCell (p:=⟨P,8,none⟩) hp _).setCell (p:=⟨P,9,none⟩) hp _).setCell (p:=⟨P,10,none⟩) hp _).setCell (p:=⟨P,11,none⟩) hp _
theorem ownMono {W:World} {base base':Nat} {e:TypeId} {size:Nat} {v:Value} {k:Nat} {xs:List Value} (h:W.ownsRow base e size v k xs) (hb:base'≤base):W.ownsRow base' e size v k xs:=by
 obtain⟨h1,h2|⟨g,cap,cur,h3,h4,h5⟩⟩:=h
 ·exact⟨h1,.inl h2⟩
 ·exact⟨h1,.inr ⟨g,cap,cur,h3,Nat.le_trans hb h4,h5⟩⟩
def NoLit (W:World) (X:Nat):Prop:=∀ o c,W.cell? ⟨X,o,none⟩=some c→(∀ q n,c≠.int q n)∧∀ s,c≠.string s
theorem noLit_slices {W:World} {X:Nat} {t:TypeId} {fr:Nat × Nat} {xs:Array Value} (h:W.heap[X]? = some (.cells xs t fr)) (hx:∀ c∈xs.toList,(∀ q n,c≠.int q n)∧∀ s,c≠.string s):NoLit W X:=by
 intro o c hc
 simp[World.cell?,h] at hc
 exact hx c (by
  have:=Array.mem_of_getElem? hc
  simpa using this)
theorem noLit_other {W:World} {X:Nat} (h:∀ o,W.heap[X]? = some o→o.isCells=false):NoLit W X:=by
 intro o c hc
 exfalso
 unfold World.cell? at hc
 cases hh:W.heap[X]? with
 | none=>simp[hh] at hc
 | some ob =>
  have:=h ob hh
  cases ob<;>simp_all [Obj.isCells]
def Turns (W W':World):Prop:=∃ row,W.grownBy W' row∧∀ X,row=some X→NoLit W X
theorem Rd.turn {W W':World} {k:Nat} {v:Value} {cs:List Value} (h:Rd W k v cs) (hk:0<k) (hi:∀ c,cs[0]? = some c→(∃ q n,c=.int q n)∨∃ s,c=.string s) (hg:Turns W W'):Rd W' k v cs:=by
 obtain⟨A,n,c,rfl,hl,hn,hc,h0⟩:=h
 obtain⟨row,hg,hr⟩:=hg
 refine⟨A,n,c,rfl,hl,hn,hc,fun hpos=>?_⟩
 obtain⟨b,off,rfl,hb,hcell⟩:=h0 hpos
 have hne:some b≠row:=by
  intro e
  have hlen:0<cs.length:=by
   rw[hl]
   exact Nat.mul_pos hpos hk
  have h1:=hcell 0 cs[0] (by rw[List.getElem?_eq_getElem hlen])
  obtain⟨n1,n2⟩:=hr b e.symm _ _ h1
  rcases hi cs[0] (by rw[List.getElem?_eq_getElem hlen]) with ⟨q,n,e⟩|⟨s,e⟩
  ·exact n1 q n e
  ·exact n2 s e
 exact⟨b,off,rfl,Nat.lt_of_lt_of_le hb hg.size,fun j u hu=>(World.cell?_of_block (hg.block b hb hne)).trans (hcell j u hu)⟩
theorem first_int {α:Type} {f:α→List Value} {l:List α} (hf:∀ x,(∃ q n,(f x)[0]? = some (.int q n))∨∃ s,(f x)[0]? = some (.string s)):∀ c,(l.flatMap f)[0]? = some c→(∃ q n,c=.int q n)∨∃ s,c=.string s:=fun c hc=>by
 cases l with
 | nil=>cases hc
 | cons a r =>
  rw[List.flatMap_cons] at hc
  rcases hf a with ⟨q,n,h⟩|⟨s,h⟩
  ·rw[List.getElem?_append_left ((List.getElem?_eq_some_iff.1 h).1),h] at hc
   exact .inl ⟨q,n,(Option.some.inj hc).symm⟩
  ·rw[List.getElem?_append_left ((List.getElem?_eq_some_iff.1 h).1),h] at hc
   exact .inr ⟨s,(Option.some.inj hc).symm⟩
section
variable {W W':World}
theorem SlI.turn {v:Value} {l:List Int} (h:SlI W v l) (hg:Turns W W'):SlI W' v l:=Rd.turn h (by omega) (first_int fun x=>.inl ⟨_,x,rfl⟩) hg
theorem SlO.turn {v:Value} {l:List Opn} (h:SlO W v l) (hg:Turns W W'):SlO W' v l:=Rd.turn h (by omega) (first_int fun x=>.inl ⟨_,_,rfl⟩) hg
theorem SlC.turn {v:Value} {l:List Cm} (h:SlC W v l) (hg:Turns W W'):SlC W' v l:=Rd.turn h (by omega) (first_int fun x=>.inl ⟨_,_,rfl⟩) hg
theorem SlM.turn {v:Value} {l:List Mk} (h:SlM W v l) (hg:Turns W W'):SlM W' v l:=Rd.turn h (by omega) (first_int fun x=>.inr ⟨_,rfl⟩) hg
theorem SlB.turn {v:Value} {l:List BrC} (h:SlB W v l) (hg:Turns W W'):SlB W' v l:=Rd.turn h (by omega) (first_int fun x=>.inl ⟨_,_,rfl⟩) hg
theorem TrOk.turn {rv bv:Value} {t:Tr} (h:TrOk W rv bv t) (hg:Turns W W'):TrOk W' rv bv t:=by
 obtain⟨h1,cs,h2,h3,h4⟩:=h
 exact⟨h1.turn hg,cs,h2.turn hg,h3,fun i hi hi'=>⟨(h4 i hi hi').1,(h4 i hi hi').2.turn hg⟩⟩
theorem Turns.grew (h:Grew W W'):Turns W W':=⟨none,grown_grew h none,fun _ e=>by cases e⟩
theorem Turns.set {X:Nat} (hX:NoLit W X) (o:Nat) (v:Value):Turns W (W.setCell ⟨X,o,none⟩ v):=⟨some X,grownSet W X o v,fun _ e=>by cases e;exact hX⟩
end
end Go.Proofs.YtdochkemaiokfaaGreat
/- tree.walk: what its recursive closure does, by induction on how far down the tree goes. The conditions: the tree is right; the rounds write one box and the row behind it alone. -/
namespace Go.Proofs.YtdochkemaiokfaaGreat
open Go.RowKit Go.Shelf
attribute [local go_sem] Oper.semAt_some
theorem room_free {F:Fence} (hd:F.depth=none) (k:Nat):F.room k:=fun d h=>by rw[hd] at h;cases h
theorem roundFree {F:Fence} (hd:F.depth=none) {m m':Nat} {P:Program} {l:Nat} {f:FuncId} {tmps:Array Value} {assign body:Code} {w:World} {R:Ending→World→Prop}
  (h:RoundIn F m P l f tmps assign body w R):RoundIn F m' P l f tmps assign body w R:=⟨h.1,fun c cs _=>h.2 c cs (room_free hd _)⟩
theorem yieldFree {F:Fence} (hd:F.depth=none) {m:Nat} (m':Nat) {P:Program} {l:Nat} {args:Array Value} {W:World} {R:Ending→World→Prop} (h:YieldAt F m P l args W R):YieldAt F m' P l args W R:=by
 obtain⟨fn,tmps,assign,body,hy,hR⟩:=h
 exact⟨fn,tmps,assign,body,hy,roundFree hd hR⟩
structure KpO (B:Nat) (W W':World):Prop where
 size:W.heap.size≤W'.heap.size
 block:∀ k o,W.heap[k]? = some o→o.isCells=true→k≠B→(∀ v,W.cell? ⟨B,0,none⟩=some v→v.ownBlock≠some k)→W'.heap[k]? = some o
 row:∀ v',W'.cell? ⟨B,0,none⟩=some v'→(∃ v,W.cell? ⟨B,0,none⟩=some v∧v.ownBlock=v'.ownBlock)∨∀ b,v'.ownBlock=some b→W.heap.size≤b∧b<W'.heap.size
def OutIn (B:Nat) (W:World):Prop:=B<W.heap.size∧∀ v,W.cell? ⟨B,0,none⟩=some v→∀ b,v.ownBlock=some b→b<W.heap.size
def Prot (B:Nat) (W:World) (k:Nat) (o:Obj):Prop:=W.heap[k]? = some o∧o.isCells=true∧k≠B∧∀ v,W.cell? ⟨B,0,none⟩=some v→v.ownBlock≠some k
def KpB (n₀ B:Nat) (W W':World):Prop:=Below n₀ W W'∧KpO B W W'
section
variable {n₀ B k:Nat} {W W' W2:World} {o:Obj}
theorem KpO.refl (B:Nat) (W:World):KpO B W W:=⟨Nat.le_refl _,fun _ _ h _ _ _=>h,fun v' h=>.inl ⟨v',h,rfl⟩⟩
theorem KpO.trans (h:KpO B W W') (j:KpO B W' W2):KpO B W W2:=by
 refine⟨Nat.le_trans h.size j.size,fun k o ho hc hne hr=>?_,fun v' hv'=>?_⟩
 ·refine j.block k o (h.block k o ho hc hne hr) hc hne fun v' hv' hb=>?_
  have hk:=(Array.getElem?_eq_some_iff.1 ho).1
  rcases h.row v' hv' with ⟨v,hv,e⟩|h2
  ·exact hr v hv (by rw[e];exact hb)
  ·have:=(h2 k hb).1
   omega
 ·rcases j.row v' hv' with ⟨v,hv,e⟩|h2
  ·rcases h.row v hv with ⟨u,hu,e2⟩|h3
   ·exact .inl ⟨u,hu,e2.trans e⟩
   ·refine .inr fun b hb=>?_
    have h4:=h3 b (by rw[e];exact hb)
    have:=j.size
    omega
  ·refine .inr fun b hb=>?_
   have h4:=h2 b hb
   have:=h.size
   omega
theorem KpO.grew (hB:B<W.heap.size) (h:Grew W W'):KpO B W W' :=
 ⟨h.size,fun k o ho _ _ _=>by rw[h.block k (Array.getElem?_eq_some_iff.1 ho).1];exact ho,fun v' hv'=>.inl ⟨v',by rw[← h.cell hB];exact hv',rfl⟩⟩
theorem OutIn.kp (h:OutIn B W) (j:KpO B W W'):OutIn B W':=by
 refine⟨Nat.lt_of_lt_of_le h.1 j.size,fun v' hv' b hb=>?_⟩
 rcases j.row v' hv' with ⟨v,hv,e⟩|h2
 ·exact Nat.lt_of_lt_of_le (h.2 v hv b (by rw[e];exact hb)) j.size
 ·exact(h2 b hb).2
theorem Prot.kp (h:Prot B W k o) (j:KpO B W W'):Prot B W' k o:=by
 obtain⟨h1,h2,h3,h4⟩:=h
 refine⟨j.block k o h1 h2 h3 h4,h2,h3,fun v' hv' hb=>?_⟩
 have hk:=(Array.getElem?_eq_some_iff.1 h1).1
 rcases j.row v' hv' with ⟨v,hv,e⟩|h5
 ·exact h4 v hv (by rw[e];exact hb)
 ·have:=(h5 k hb).1
  omega
theorem Prot.new (h:OutIn B W) (hc:o.isCells=true):Prot B (W.alloc o) W.heap.size o:=by
 refine⟨World.alloc_heap_new W o,hc,by have:=h.1;omega,fun v hv hb=>?_⟩
 have hv2:W.cell? ⟨B,0,none⟩=some v:=by rw[← hv];exact(World.cell?_alloc_lt _ _ _ h.1).symm
 have:=h.2 v hv2 _ hb
 omega
theorem Prot.cell {vs:Array Value} {t:TypeId} (h:Prot B W k (.cells vs t (0,0))) (j:Nat) (v:Value) (hj:vs[j]? = some v):W.cell? ⟨k,j,none⟩=some v:=by
 simp[World.cell?,h.1,hj]
theorem KpB.refl (n₀ B:Nat) (W:World):KpB n₀ B W W:=⟨Below.refl _ _,KpO.refl _ _⟩
theorem KpB.trans (h:KpB n₀ B W W') (j:KpB n₀ B W' W2):KpB n₀ B W W2:=⟨h.1.trans j.1,h.2.trans j.2⟩
theorem KpB.grew (hB:B<W.heap.size) (hn:n₀≤W.heap.size) (h:Grew W W'):KpB n₀ B W W':=⟨h.below.mono hn,KpO.grew hB h⟩
theorem kpB_put {w:World} (hn:n₀≤w.heap.size) (hB:B<w.heap.size) (W:World) (l:Nat) (o o':Obj) (hl:w.heap.size≤l) (h:W.heap[l]? = some o) (hc:o.isCells=false) (hw:o.isWalk=false):KpB n₀ B W (W.putObj l o'):=by
 have hg:=grownBy_putObj' W l o'
 refine⟨belowK_b hn W l o o' hl h hc hw,hg.size,fun k o2 ho hc2 _ _=>?_,fun v' hv'=>.inl ⟨v',?_,rfl⟩⟩
 ·rw[hg.block k (Array.getElem?_eq_some_iff.1 ho).1 (fun e=>?_)]
  ·exact ho
  ·injection e with e
   subst e
   rw[h] at ho
   injection ho with ho
   rw[← ho,hc] at hc2
   cases hc2
 ·have hBW:B<W.heap.size:=by have:=(Array.getElem?_eq_some_iff.1 h).1;omega
  rw[← hv']
  exact(World.cell?_of_block (hg.block B hBW (fun e=>by injection e with e;omega))).symm
end
theorem idxEff (l:List Int) (g:Nat) (lb:Array Value) (eg:∀ args w,(callFunc g args).run Tryz.prog w=.ok (.enter g args) w) (v:Value) (w0 w:World) (hv:SlI w0 v l) (R:Nat→World→Prop) (St:World→Prop) (hR0:R 0 w) (hRg:∀ i W,R i W→Grew w0 W)
  (hp:∀ i (hi:i<l.length) W,R i W→Calls Tryz.prog g (#[(.int .i64 l[i])]++lb) W fun e w'=>(e=.returned (.bool false)∧R (i+1) w')∨(e=.returned (.bool true)∧St w')) :
  Calls Tryz.prog 226 #[v,.func (.func g) #[] lb] w fun e w'=>(e=.returned (.int .i64 (-1))∧R l.length w')∨(∃ i:Nat,e=.returned (.int .i64 (i:Int))∧St w'):=by
 obtain⟨A,c,rfl,hlc,hc,hr⟩:=hv.open_
 unfold maxLen at hc
 have HR:=Lib.hid hr
 have HP:=Lib.hid hp
 have HG:=Lib.hid hRg
 have HR0:=Lib.hid hR0
 clear hr hp hv hRg hR0
 go_enter Tryz.func226,Tryz.ntmps226
 go_wp2
 go_loopg [5,8] l.length (fun gg _ s8 wr=>∃ kk:Nat,kk≤l.length∧l.length-kk≤gg∧s8=.int .i64 kk∧Aside (R kk wr))
 case atStart=>exact⟨0,Nat.zero_le _,by omega,rfl,HR0.out⟩
 case round =>
  obtain⟨kk,hkk,hg,rfl,BW⟩:=hrel
  by_cases hlt:kk<l.length
  ·obtain⟨b,off,rfl,hb,hcell⟩:=HR.out (by omega)
   obtain c0:=hcell wr (HG.out kk wr BW.out) kk hlt
   have hcall:=HP.out kk hlt wr BW.out
   have hltz:(kk:Int)<(l.length:Int):=by omega
   clear hcell
   generalize l[kk]=y at c0 hcall
   go_wp2_with (go_at_fn g;refine hcall.mono ?_;rintro e w' (⟨rfl,hb'⟩|⟨rfl,hb'⟩))
   ·go_roundg (l.length-(kk+1))
    case measure=>omega
    case rel=>exact⟨kk+1,by omega,by omega,by go_num,(show Aside _ from hb')⟩
   ·go_ret
    exact .inr ⟨kk,rfl,hb'⟩
  ·have hltz:¬ (kk:Int)<(l.length:Int):=by omega
   obtain rfl:kk=l.length:=by omega
   go_wp2
   go_ret
   exact .inl ⟨rfl,BW.out⟩
theorem containsEff (l:List Int) (g:Nat) (lb:Array Value) (eg:∀ args w,(callFunc g args).run Tryz.prog w=.ok (.enter g args) w) (v:Value) (w0 w:World) (hv:SlI w0 v l) (R:Nat→World→Prop) (St:World→Prop) (hR0:R 0 w) (hRg:∀ i W,R i W→Grew w0 W)
  (hp:∀ i (hi:i<l.length) W,R i W→Calls Tryz.prog g (#[(.int .i64 l[i])]++lb) W fun e w'=>(e=.returned (.bool false)∧R (i+1) w')∨(e=.returned (.bool true)∧St w')) :
  Calls Tryz.prog 223 #[v,.func (.func g) #[] lb] w fun e w'=>(e=.returned (.bool false)∧R l.length w')∨(e=.returned (.bool true)∧St w'):=by
 have K:=Lib.hid (idxEff l g lb eg v w0 w hv R St hR0 hRg hp)
 clear hv hR0 hRg hp
 go_enter Tryz.func223,Tryz.ntmps223
 go_wp2_with fail
 refine K.out.mono ?_
 rintro e w1 (⟨rfl,h⟩|⟨i,rfl,h⟩)
 ·dsimp only
  go_wp2
  go_ret
  exact .inl ⟨rfl,h⟩
 ·have h0:(0:Int)≤(i:Int):=by omega
  dsimp only
  go_wp2
  go_ret
  exact .inr ⟨rfl,h⟩
end Go.Proofs.YtdochkemaiokfaaGreat
/- tree.walk's recursive closure: it hands on a unit and all that are below it. The conditions: the tree is right; the rounds write one box and the row behind it alone. -/
namespace Go.Proofs.YtdochkemaiokfaaGreat
open Go.RowKit Go.Shelf
attribute [local go_sem] Oper.semAt_some
structure Boxes (B lp Yb Tb Vb:Nat) (rv bv:Value) (W:World):Prop where
 y:∃ t,Prot B W Yb (.cells #[.func (.yield lp) #[] #[]] t (0,0))
 t:∃ t,Prot B W Tb (.cells #[rv,bv] t (0,0))
 v:∃ t,Prot B W Vb (.cells #[.func (.func 222) #[] #[.pointer (some ⟨Yb,0,none⟩),.pointer (some ⟨Tb,0,none⟩),.pointer (some ⟨Vb,0,none⟩)]] t (0,0))
theorem Boxes.kp {B lp Yb Tb Vb:Nat} {rv bv:Value} {W W':World} (h:Boxes B lp Yb Tb Vb rv bv W) (j:KpO B W W'):Boxes B lp Yb Tb Vb rv bv W' :=
 ⟨h.y.imp fun _ p=>p.kp j,h.t.imp fun _ p=>p.kp j,h.v.imp fun _ p=>p.kp j⟩
def VisEnd (J Jx:List (Int × Int)→World→Prop) (n₀ B:Nat) (L:List Int) (pre:List (Int × Int)) (W:World) (e:Ending) (W':World):Prop :=
 (e=.returned (.bool true)∧(∃ ys:List (Int × Int),ys.map Prod.fst=L∧J (pre++ys) W')∧KpB n₀ B W W')∨(e=.returned (.bool false)∧∃ ys:List (Int × Int),ys.map Prod.fst <+: L∧Jx (pre++ys) W')
theorem tVisit1 (kid above:Int) (Vb Ab:Nat) (p1 p2 p3:Value) (W:World) (c1:W.cell? ⟨Vb,0,none⟩=some (.func (.func 222) #[] #[p1,p2,p3])) (c2:W.cell? ⟨Ab,0,none⟩=some (.int .i64 above)) (R1 R2:World→Prop)
  (h:∀ a:Int,Calls Tryz.prog 222 (#[.int .i64 kid,.int .i64 a] ++ #[p1,p2,p3]) W fun e W'=>(e=.returned (.bool true)∧R1 W')∨(e=.returned (.bool false)∧R2 W')) :
  Calls Tryz.prog 225 (#[.int .i64 kid] ++ #[.pointer (some ⟨Vb,0,none⟩),.pointer (some ⟨Ab,0,none⟩)]) W fun e W'=>(e=.returned (.bool false)∧R1 W')∨(e=.returned (.bool true)∧R2 W'):=by
 have H:=Lib.hid h
 clear h
 go_enter Tryz.func225,Tryz.ntmps225
 go_wp2_with fail
 refine(H.out _).mono ?_
 rintro e w' (⟨rfl,hb'⟩|⟨rfl,hb'⟩)
 ·dsimp only
  go_wp2
  go_ret
  exact .inl ⟨rfl,hb'⟩
 ·dsimp only
  go_wp2
  go_ret
  exact .inr ⟨rfl,hb'⟩
theorem enters_tVisit1:∀ args w,(callFunc 225 args).run Tryz.prog w=.ok (.enter 225 args) w:=enters_of Tryz.func225 (by kernel_rfl) rfl
theorem flat_next (g:Int→List Int) (ks:List Int) (i:Nat) (hi:i<ks.length):(ks.take (i+1)).flatMap g=(ks.take i).flatMap g++g ks[i]:=by
 rw[List.take_succ_eq_append_getElem hi,List.flatMap_append]
 simp
theorem flat_split (g:Int→List Int) (ks:List Int) (i:Nat) (hi:i<ks.length):ks.flatMap g=(ks.take i).flatMap g++(g ks[i]++(ks.drop (i+1)).flatMap g):=by
 have h:ks.flatMap g=(ks.take (i+1)++ks.drop (i+1)).flatMap g:=by rw[List.take_append_drop]
 rw[h,List.flatMap_append,flat_next g ks i hi,List.append_assoc]
def VisR (B lp Yb Tb Vb:Nat) (rv bv:Value) (w0 W:World) (above:Int) (pre:List (Int × Int)) (J:List (Int × Int)→World→Prop) (ks:List Int) (g:Int→List Int) (i:Nat) (W':World):Prop :=
 Boxes B lp Yb Tb Vb rv bv W'∧OutIn B W'∧Prot B W' W.heap.size (.cells #[.int .i64 above] 3 (0,0))∧Grew w0 W'∧KpB w0.heap.size B W W'∧∃ ys:List (Int × Int),ys.map Prod.fst=(ks.take i).flatMap g∧J (pre++ys) W'
theorem VisR.grew {B lp Yb Tb Vb:Nat} {rv bv:Value} {w0 W W':World} {above:Int} {pre:List (Int × Int)} {J:List (Int × Int)→World→Prop} {ks:List Int} {g:Int→List Int} {i:Nat} (h:VisR B lp Yb Tb Vb rv bv w0 W above pre J ks g i W'):Grew w0 W':=h.2.2.2.1
def VisS (pre:List (Int × Int)) (Jx:List (Int × Int)→World→Prop) (ks:List Int) (g:Int→List Int) (W':World):Prop:=∃ ys:List (Int × Int),ys.map Prod.fst <+: ks.flatMap g∧Jx (pre++ys) W'
theorem visStep {B lp Yb Tb Vb N:Nat} {rv bv:Value} {w0 W W4:World} {above:Int} {pre:List (Int × Int)} {J Jx:List (Int × Int)→World→Prop} {ks:List Int} {g:Int→List Int} {i:Nat} (hi:i<ks.length) (hN:pre.length+(ks.flatMap g).length≤N)
  (hK:∀ above pre W,Boxes B lp Yb Tb Vb rv bv W→OutIn B W→Grew w0 W→J pre W→pre.length+(g ks[i]).length≤N →
   Calls Tryz.prog 222 #[.int .i64 ks[i],.int .i64 above,.pointer (some ⟨Yb,0,none⟩),.pointer (some ⟨Tb,0,none⟩),.pointer (some ⟨Vb,0,none⟩)] W (VisEnd J Jx w0.heap.size B (g ks[i]) pre W))
  (h:VisR B lp Yb Tb Vb rv bv w0 W above pre J ks g i W4) :
  Calls Tryz.prog 225 (#[.int .i64 ks[i]] ++ #[.pointer (some ⟨Vb,0,none⟩),.pointer (some ⟨W.heap.size,0,none⟩)]) W4 fun e W'=>(e=.returned (.bool false)∧VisR B lp Yb Tb Vb rv bv w0 W above pre J ks g (i+1) W')∨(e=.returned (.bool true)∧VisS pre Jx ks g W'):=by
 obtain⟨hB,hO,hPA,hG,hK4,ys,hys,hj⟩:=h
 obtain⟨tv,hpv⟩:=hB.v
 have hsp:=flat_split g ks i hi
 have hlen:ys.length=((ks.take i).flatMap g).length:=by rw[← hys,List.length_map]
 refine tVisit1 ks[i] above Vb W.heap.size _ _ _ W4 (hpv.cell 0 _ rfl) (hPA.cell 0 _ rfl) _ _ fun a=>?_
 refine(hK a (pre++ys) W4 hB hO hG hj ?_).mono ?_
 ·rw[hsp] at hN
  simp only [List.length_append] at hN ⊢
  omega
 ·rintro e W' (⟨rfl,⟨zs,hzs,hj'⟩,hk'⟩|⟨rfl,zs,hzs,hj'⟩)
  ·refine .inl ⟨rfl,hB.kp hk'.2,hO.kp hk'.2,hPA.kp hk'.2,Below.trans hG hk'.1,hK4.trans hk',ys++zs,?_,by rw[← List.append_assoc];exact hj'⟩
   rw[flat_next g ks i hi,List.map_append,hys,hzs]
  ·refine .inr ⟨rfl,ys++zs,?_,by rw[← List.append_assoc];exact hj'⟩
   rw[hsp,List.map_append,hys]
   obtain⟨r,hr⟩:=hzs
   exact⟨r++(ks.drop (i+1)).flatMap g,by rw[← hr];simp⟩
set_option maxHeartbeats 4000000 in
set_option maxRecDepth 100000 in
theorem tVisitBody (rs:List Int) (l:List Br) (rv bv:Value) (w0:World) (hr:SlI w0 rv rs) (hv:SlBr w0 bv l) (hf:l.length≤1000000) (hT:RightT ⟨rs,l⟩) (B lp Yb Tb Vb N:Nat) (J Jx:List (Int × Int)→World→Prop)
  (hJ:∀ s W W',J s W→Grew W W'→J s W')
  (hY:∀ m pre (x:Int × Int) W,J pre W→pre.length<N→YieldAt Fence.wide m Tryz.prog lp #[.int .i64 x.1,.int .i64 x.2] W fun e W' =>
   (e=.returned (.bool true)∧J (pre++[x]) W'∧KpB w0.heap.size B W W')∨(e=.returned (.bool false)∧Jx (pre++[x]) W'))
  (x:Int) (hid:x=0∨∃ b,brFind l x=some b) (g:Int→List Int)
  (hK:∀ k∈childs ⟨rs,l⟩ x,∀ above pre W,Boxes B lp Yb Tb Vb rv bv W→OutIn B W→Grew w0 W→J pre W→pre.length+(g k).length≤N →
   Calls Tryz.prog 222 #[.int .i64 k,.int .i64 above,.pointer (some ⟨Yb,0,none⟩),.pointer (some ⟨Tb,0,none⟩),.pointer (some ⟨Vb,0,none⟩)] W (VisEnd J Jx w0.heap.size B (g k) pre W))
  (above:Int) (pre:List (Int × Int)) (W:World) (hB:Boxes B lp Yb Tb Vb rv bv W) (hO:OutIn B W) (hG:Grew w0 W) (hj:J pre W) (hN:pre.length+(x::(childs ⟨rs,l⟩ x).flatMap g).length≤N) :
  Calls Tryz.prog 222 #[.int .i64 x,.int .i64 above,.pointer (some ⟨Yb,0,none⟩),.pointer (some ⟨Tb,0,none⟩),.pointer (some ⟨Vb,0,none⟩)] W (VisEnd J Jx w0.heap.size B (x::(childs ⟨rs,l⟩ x).flatMap g) pre W):=by
 simp only [List.length_cons] at hN
 obtain⟨W1,hW1⟩:∃ W1,W1=W.alloc (.cells #[.int .i64 above] 3):=⟨_,rfl⟩
 have hn0:w0.heap.size≤W.heap.size:=hG.size
 have hgA:Grew W W1:=by rw[hW1];exact(Grew.refl W).alloc _
 have hkA:KpB w0.heap.size B W W1:=KpB.grew hO.1 hn0 hgA
 have hPA:Prot B W1 W.heap.size (.cells #[.int .i64 above] 3 (0,0)):=by rw[hW1];exact Prot.new hO rfl
 have hB1:=hB.kp hkA.2
 have hO1:=hO.kp hkA.2
 obtain⟨fn,tmps,assign,body,hy,hR⟩:=hY 8 pre (x,above) W1 (hJ _ _ _ hj hgA) (by omega)
 obtain⟨ty,hpy⟩:=hB1.y
 have cy:W1.cell? ⟨Yb,0,none⟩=some (.func (.yield lp) #[] #[]):=hpy.cell 0 _ rfl
 have ca:W1.cell? ⟨W.heap.size,0,none⟩=some (.int .i64 above):=hPA.cell 0 _ rfl
 have HPA:=Lib.hid hPA
 have HB1:=Lib.hid hB1
 have HO1:=Lib.hid hO1
 have HKA:=Lib.hid hkA
 have HG1:=Lib.hid (hG.trans hgA)
 have HN:=Lib.hid hN
 have HK:=Lib.hid hK
 have HJ:=Lib.hid hJ
 have HKI:=Lib.hid (fun W (hW:Grew w0 W)=>tKids0 rs l x rv bv w0 W hr hv hW hf hT hid)
 generalize childs ⟨rs,l⟩ x=ks at HN HK HKI ⊢
 clear hr hv hT hJ hY hK hB hO hG hj hN hgA hkA hPA hB1 hO1 hpy hid hf hn0
 subst hW1
 refine(callsIn_wide (n:=9)).1 ?_
 refine callsIn_of_wp Tryz.func222 rfl trivial ?_ rfl
 simp only [Tryz.ntmps222,List.size_toArray,List.length_cons,List.length_nil,Nat.reduceAdd,Nat.reduceSub,Array.replicate_succ,Array.replicate_zero,List.push_toArray,List.append_toArray,List.nil_append,List.cons_append]
 gi_wp2_with fail
 refine hR.mono ?_
 rintro e W2 (⟨rfl,hJ2,hk2⟩|⟨rfl,hJx2⟩)
 ·have HK2:=Lib.hid (HKA.out.trans hk2)
  have HB2:=Lib.hid (HB1.out.kp hk2.2)
  have HO2:=Lib.hid (HO1.out.kp hk2.2)
  have HPA2:=Lib.hid (HPA.out.kp hk2.2)
  have HG2:=Lib.hid (show Grew w0 W2 from Below.trans HG1.out hk2.1)
  obtain⟨tt,hpt⟩:=HB2.out.t
  have t0:W2.cell? ⟨Tb,0,none⟩=some rv:=hpt.cell 0 _ rfl
  have t1:W2.cell? ⟨Tb,1,none⟩=some bv:=hpt.cell 1 _ rfl
  have HJ2:=Lib.hid hJ2
  clear hk2 hpt hJ2
  dsimp only
  gi_wp2_with fail
  refine⟨trivial,(callsIn_wide.2 (HKI.out _ HG2.out)).mono ?_⟩
  rintro e W3 ⟨v3,rfl,s3,g3⟩
  have hk3:KpB w0.heap.size B W2 W3:=KpB.grew HO2.out.1 HG2.out.size g3
  have hc:=containsEff ks 225 #[.pointer (some ⟨Vb,0,none⟩),.pointer (some ⟨W.heap.size,0,none⟩)] enters_tVisit1 v3 w0 W3 s3 (VisR B lp Yb Tb Vb rv bv w0 W above (pre++[(x,above)]) J ks g) (VisS (pre++[(x,above)]) Jx ks g)
   ⟨HB2.out.kp hk3.2,HO2.out.kp hk3.2,HPA2.out.kp hk3.2,HG2.out.trans g3,HK2.out.trans hk3,[],by simp,by simpa using HJ.out _ _ _ HJ2.out g3⟩ (fun _ _ h=>h.grew) (fun i hi W4 hR4=>visStep hi (by have:=HN.out;simp only [List.length_append,List.length_cons,List.length_nil];omega) (HK.out ks[i] (List.getElem_mem hi)) hR4)
  have HC:=Lib.hid hc
  clear hk3 hc t0 t1 g3
  dsimp only
  gi_wp2_with fail
  refine⟨trivial,(callsIn_wide.2 HC.out).mono ?_⟩
  rintro e W4 (⟨rfl,h4⟩|⟨rfl,h4⟩)
  ·dsimp only
   gi_wp2
   go_ret
   obtain⟨-,-,-,-,hk4,ys,hys,hj4⟩:=h4
   rw[List.take_length] at hys
   exact .inl ⟨rfl,⟨(x,above)::ys,by simp[hys],by simpa [List.append_assoc] using hj4⟩,hk4⟩
  ·dsimp only
   gi_wp2
   go_ret
   obtain⟨ys,hys,hj4⟩:=h4
   exact .inr ⟨rfl,(x,above)::ys,by simpa using hys,by simpa [List.append_assoc] using hj4⟩
 ·dsimp only
  gi_wp2
  go_ret
  exact .inr ⟨rfl,[(x,above)],by simp,hJx2⟩
end Go.Proofs.YtdochkemaiokfaaGreat
/- tree.walk and tree.Below, walked. The conditions: the library's own variables hold what they must; the lists are short. -/
namespace Go.Proofs.YtdochkemaiokfaaGreat
open Go.RowKit Go.Shelf
attribute [local go_sem] Oper.semAt_some
theorem Prot.fresh {B k:Nat} {W W':World} {o:Obj} (h:OutIn B W) (hg:Grew W W') (hk:W.heap.size≤k) (ho:W'.heap[k]? = some o) (hc:o.isCells=true):Prot B W' k o:=by
 refine⟨ho,hc,by have:=h.1;omega,fun v hv hb=>?_⟩
 rw[hg.cell h.1] at hv
 have:=h.2 v hv _ hb
 omega
theorem cell_two (W:World) (o:Obj) (v:Value) (t:TypeId):((W.alloc o).alloc (.cells #[v] t)).cell? ⟨W.heap.size+1,0,none⟩=some v∧((W.alloc o).alloc (.cells #[v] t)).frozen? ⟨W.heap.size+1,0,none⟩=false:=by
 have h:=World.alloc_heap_new (W.alloc o) (.cells #[v] t)
 rw[World.size_alloc] at h
 exact⟨cell_of_one h,free_of_one h⟩
theorem func_one (f:Fn) (b:Array Value):(Value.func f #[] b).oneCell'=true:=by simp[Value.oneCell']
def RootR (B lp Yb Tb Vb:Nat) (rv bv:Value) (w0:World) (J:List (Int × Int)→World→Prop) (rs:List Int) (g:Int→List Int) (k:Nat) (W:World):Prop :=
 Boxes B lp Yb Tb Vb rv bv W∧OutIn B W∧Grew w0 W∧∃ ys:List (Int × Int),ys.map Prod.fst=(rs.take k).flatMap g∧J ys W
theorem rootStep {B lp Yb Tb Vb:Nat} {rv bv:Value} {w0 W W5:World} {J:List (Int × Int)→World→Prop} {rs:List Int} {g:Int→List Int} {k:Nat} {ys zs:List (Int × Int)} (hk:k<rs.length) (hB:Boxes B lp Yb Tb Vb rv bv W) (hO:OutIn B W) (hG:Grew w0 W) (hys:ys.map Prod.fst=(rs.take k).flatMap g)
  (h1:zs.map Prod.fst=g rs[k]) (h2:J (ys++zs) W5) (h3:KpB w0.heap.size B W W5):RootR B lp Yb Tb Vb rv bv w0 J rs g (k+1) W5 :=
 ⟨hB.kp h3.2,hO.kp h3.2,Below.trans hG h3.1,ys++zs,by rw[flat_next g rs k hk,List.map_append,hys,h1],h2⟩
theorem rootStop {rs:List Int} {g:Int→List Int} {k:Nat} {ys zs:List (Int × Int)} (hk:k<rs.length) (hys:ys.map Prod.fst=(rs.take k).flatMap g) (h1:zs.map Prod.fst <+: g rs[k]):(ys++zs).map Prod.fst <+: rs.flatMap g:=by
 rw[flat_split g rs k hk,List.map_append,hys]
 obtain⟨r,hr⟩:=h1
 exact⟨r++(rs.drop (k+1)).flatMap g,by rw[← hr];simp⟩
section
variable (rs:List Int) (l:List Br) (rv bv:Value) (w0:World) (hr:SlI w0 rv rs) (hv:SlBr w0 bv l) (hf:l.length≤1000000) (hT:RightT ⟨rs,l⟩) (B lp Yb Tb Vb N:Nat) (J Jx:List (Int × Int)→World→Prop)
  (hJ:∀ s W W',J s W→Grew W W'→J s W')
  (hY:∀ m pre (x:Int × Int) W,J pre W→pre.length<N→YieldAt Fence.wide m Tryz.prog lp #[.int .i64 x.1,.int .i64 x.2] W fun e W' =>
   (e=.returned (.bool true)∧J (pre++[x]) W'∧KpB w0.heap.size B W W')∨(e=.returned (.bool false)∧Jx (pre++[x]) W'))
include hr hv hf hT hJ hY
theorem tVisit:∀(f:Nat) (b:Br) (d:Nat),b∈l→deep l l.length b=some d→l.length≤f+d→∀ above pre W,Boxes B lp Yb Tb Vb rv bv W→OutIn B W→Grew w0 W→J pre W→pre.length+(belowL ⟨rs,l⟩ f b.id).length≤N →
  Calls Tryz.prog 222 #[.int .i64 b.id,.int .i64 above,.pointer (some ⟨Yb,0,none⟩),.pointer (some ⟨Tb,0,none⟩),.pointer (some ⟨Vb,0,none⟩)] W (VisEnd J Jx w0.heap.size B (belowL ⟨rs,l⟩ f b.id) pre W):=by
 have hS:=right_sound hT
 intro f
 induction f with
 | zero =>
  intro b d hb hd hfd above pre W hB hO hG hj hN
  have hno:childs ⟨rs,l⟩ b.id=[]:=by
   rw[List.eq_nil_iff_forall_not_mem]
   intro k hk
   obtain⟨c,hc,hcp,_⟩:=(childs_mem hS (.inr ⟨b,hb,rfl⟩)).1 hk
   have h1:=deep_child hS hb hc hcp hd
   have h2:=deep_le hS.asc hc h1
   have h3:(Tr.brs ⟨rs,l⟩).length=l.length:=rfl
   omega
  have he:belowL ⟨rs,l⟩ 0 b.id=b.id::(childs ⟨rs,l⟩ b.id).flatMap (fun _=>[]):=by rw[hno];rfl
  rw[he] at hN ⊢
  exact tVisitBody rs l rv bv w0 hr hv hf hT B lp Yb Tb Vb N J Jx hJ hY b.id (.inr ⟨b,find_byid hS.asc hb⟩) _ (fun k hk=>by rw[hno] at hk;cases hk) above pre W hB hO hG hj hN
 | succ f ih =>
  intro b d hb hd hfd above pre W hB hO hG hj hN
  refine tVisitBody rs l rv bv w0 hr hv hf hT B lp Yb Tb Vb N J Jx hJ hY b.id (.inr ⟨b,find_byid hS.asc hb⟩) (belowL ⟨rs,l⟩ f) (fun k hk=>?_) above pre W hB hO hG hj hN
  obtain⟨c,hc,hcp,e⟩:=(childs_mem hS (.inr ⟨b,hb,rfl⟩)).1 hk
  rw[← e]
  exact ih c (d+1) hc (deep_child hS hb hc hcp hd) (by omega)
set_option maxHeartbeats 4000000 in
set_option maxRecDepth 100000 in
theorem tWalk1 (Ib:Nat) (id:Int) (hid:id=0∨∃ b,brFind l id=some b) (hN:(belowT ⟨rs,l⟩ id).length≤N) (W:World) (hTb:∃ t,Prot B W Tb (.cells #[rv,bv] t (0,0))) (hIb:W.cell? ⟨Ib,0,none⟩=some (.int .i64 id)) (hO:OutIn B W) (hG:Grew w0 W) (h0:J [] W)
  (hVb:Vb=W.heap.size+1) (hYb:Yb=W.heap.size) :
  Calls Tryz.prog 221 #[.func (.yield lp) #[] #[],.pointer (some ⟨Tb,0,none⟩),.pointer (some ⟨Ib,0,none⟩)] W fun e W'=>(∃ v,e=.returned v)∧((∃ xs:List (Int × Int),xs.map Prod.fst=belowT ⟨rs,l⟩ id∧J xs W')∨(∃ pre:List (Int × Int),pre.map Prod.fst <+: belowT ⟨rs,l⟩ id∧Jx pre W')):=by
 have hS:=right_sound hT
 have hV:=tVisit rs l rv bv w0 hr hv hf hT B lp Yb Tb Vb N J Jx hJ hY
 have hVr:∀ k∈rs,∀ above pre W,Boxes B lp Yb Tb Vb rv bv W→OutIn B W→Grew w0 W→J pre W→pre.length+(belowL ⟨rs,l⟩ l.length k).length≤N →
   Calls Tryz.prog 222 #[.int .i64 k,.int .i64 above,.pointer (some ⟨Yb,0,none⟩),.pointer (some ⟨Tb,0,none⟩),.pointer (some ⟨Vb,0,none⟩)] W (VisEnd J Jx w0.heap.size B (belowL ⟨rs,l⟩ l.length k) pre W):=by
  intro k hk
  obtain⟨c,hc,_,e⟩:=(hS.roots.2 k).1 hk
  obtain⟨d,hd,_⟩:=deep_some hS hc
  rw[← e]
  exact hV l.length c d hc hd (by omega)
 have hVi:∀ b,brFind l id=some b→∀ above pre W,Boxes B lp Yb Tb Vb rv bv W→OutIn B W→Grew w0 W→J pre W→pre.length+(belowL ⟨rs,l⟩ l.length id).length≤N →
   Calls Tryz.prog 222 #[.int .i64 id,.int .i64 above,.pointer (some ⟨Yb,0,none⟩),.pointer (some ⟨Tb,0,none⟩),.pointer (some ⟨Vb,0,none⟩)] W (VisEnd J Jx w0.heap.size B (belowL ⟨rs,l⟩ l.length id) pre W):=by
  intro b hb
  have hin:=find_in hb
  obtain⟨d,hd,_⟩:=deep_some hS hin.1
  rw[← hin.2]
  exact hV l.length b d hin.1 hd (by omega)
 subst hVb hYb
 obtain⟨tb,hpt⟩:=hTb
 have t0:W.cell? ⟨Tb,0,none⟩=some rv:=hpt.cell 0 _ rfl
 obtain⟨W2,hW2⟩:∃ W2,W2=(W.alloc (.cells #[.func (.yield lp) #[] #[]] 186)).alloc (.cells #[.func (.func 222) #[] #[.pointer (some ⟨W.heap.size,0,none⟩),.pointer (some ⟨Tb,0,none⟩),.pointer (some ⟨W.heap.size+1,0,none⟩)]] 186):=⟨_,rfl⟩
 have hgA:Grew W W2:=by rw[hW2];exact((Grew.refl W).alloc _).alloc _
 have hB2:Boxes B lp W.heap.size Tb (W.heap.size+1) rv bv W2:=by
  refine⟨⟨_,Prot.fresh hO hgA (Nat.le_refl _) (o:=.cells #[.func (.yield lp) #[] #[]] 186 (0,0)) ?_ rfl⟩,⟨tb,hpt.kp (KpO.grew hO.1 hgA)⟩,⟨_,Prot.fresh hO hgA (Nat.le_succ _) (o:=.cells #[.func (.func 222) #[] #[.pointer (some ⟨W.heap.size,0,none⟩),.pointer (some ⟨Tb,0,none⟩),.pointer (some ⟨W.heap.size+1,0,none⟩)]] 186 (0,0)) ?_ rfl⟩⟩
  ·rw[hW2]
   rw[Below.heap_alloc _ _ _ (by simp)]
   exact World.alloc_heap_new W _
  ·rw[hW2]
   have:=World.alloc_heap_new (W.alloc (.cells #[.func (.yield lp) #[] #[]] 186)) (.cells #[.func (.func 222) #[] #[.pointer (some ⟨W.heap.size,0,none⟩),.pointer (some ⟨Tb,0,none⟩),.pointer (some ⟨W.heap.size+1,0,none⟩)]] 186)
   rwa [World.size_alloc] at this
 have hO2:=hO.kp (KpO.grew hO.1 hgA)
 have hi2:W2.cell? ⟨Ib,0,none⟩=some (.int .i64 id):=keep_cell hgA hIb
 have ht2:W2.cell? ⟨Tb,0,none⟩=some rv:=keep_cell hgA t0
 have hv2:W2.cell? ⟨W.heap.size+1,0,none⟩=some (.func (.func 222) #[] #[.pointer (some ⟨W.heap.size,0,none⟩),.pointer (some ⟨Tb,0,none⟩),.pointer (some ⟨W.heap.size+1,0,none⟩)]):=by
  obtain⟨tv,hpv⟩:=hB2.v
  exact hpv.cell 0 _ rfl
 have HJ2:=Lib.hid (hJ _ _ _ h0 hgA)
 have HB2:=Lib.hid hB2
 have HO2:=Lib.hid hO2
 have HG2:=Lib.hid (hG.trans hgA)
 have HVr:=Lib.hid hVr
 have HVi:=Lib.hid hVi
 have HNN:=Lib.hid hN
 have HR:=Lib.hid hr
 have HJ:=Lib.hid hJ
 have HW2:=Lib.hid hW2
 have HI2:=Lib.hid hi2
 have HT2:=Lib.hid ht2
 have HV2:=Lib.hid hv2
 clear hW2 hi2 ht2 hv2 t0 hIb
 clear hV hVr hVi hS hT hY hv hf hB2 hO2 hgA hpt hO hG h0 hN hr
 by_cases hz:id=0
 ·subst hz
  have hbt:belowT ⟨rs,l⟩ 0=rs.flatMap (belowL ⟨rs,l⟩ l.length):=by
   unfold belowT
   rw[if_pos rfl]
  rw[hbt] at HNN ⊢
  generalize belowL ⟨rs,l⟩ l.length=g at HVr HVi HNN ⊢
  obtain⟨A,c,rfl,hlc,hc,hcr⟩:=HR.out.open_
  unfold maxLen at hc
  have HCR:=Lib.hid hcr
  clear hbt hcr hid HVi
  obtain⟨cn,fn⟩:=cell_two W (.cells #[.func (.yield lp) #[] #[]] 186) .nilFunc 186
  have ho:=func_one (.func 222) #[.pointer (some ⟨W.heap.size,0,none⟩),.pointer (some ⟨Tb,0,none⟩),.pointer (some ⟨W.heap.size+1,0,none⟩)]
  have hi2:=HI2.out
  have ht2:=HT2.out
  rw[HW2.out] at hi2 ht2
  go_enter Tryz.func221,Tryz.ntmps221
  go_wp2
  go_loopg [6,16] rs.length (fun gg _ s16 wr=>∃ k:Nat,k≤rs.length∧rs.length-k≤gg∧s16=.int .i64 k∧Aside (RootR B lp W.heap.size Tb (W.heap.size+1) (.slice A rs.length c) bv w0 J rs g k wr))
  case atStart=>exact⟨0,by omega,by omega,rfl,(show Aside _ from by rw[← HW2.out];exact⟨HB2.out,HO2.out,HG2.out,[],by simp,HJ2.out⟩)⟩
  case round =>
   obtain⟨k,hk,hgk,rfl,RW⟩:=hrel
   by_cases hlt:k<rs.length
   ·have hltz:(k:Int)<(rs.length:Int):=by omega
    have h0z:(0:Int)≤(k:Int):=by omega
    obtain⟨b,off,rfl,hbk,hcell⟩:=HCR.out (by omega)
    obtain⟨hBr,hOr,hGr,ys,hys,hjr⟩:=RW.out
    have c0:=hcell wr hGr k hlt
    obtain⟨tv,hpv⟩:=hBr.v
    have cv:wr.cell? ⟨W.heap.size+1,0,none⟩=some (.func (.func 222) #[] #[.pointer (some ⟨W.heap.size,0,none⟩),.pointer (some ⟨Tb,0,none⟩),.pointer (some ⟨W.heap.size+1,0,none⟩)]):=hpv.cell 0 _ rfl
    have hsp:=flat_split g rs k hlt
    have hlen:ys.length=((rs.take k).flatMap g).length:=by rw[← hys,List.length_map]
    have hcall:=HVr.out rs[k] (List.getElem_mem hlt) 0 ys wr hBr hOr hGr hjr (by
     have:=HNN.out
     rw[hsp] at this
     simp only [List.length_append] at this
     omega)
    have HCALL:=Lib.hid hcall
    have HST:=Lib.hid (fun W5 (zs:List (Int × Int)) h1 h2 h3=>rootStep (J:=J) (g:=g) (rs:=rs) hlt hBr hOr hGr hys (W5:=W5) (zs:=zs) h1 h2 h3)
    have HSX:=Lib.hid (fun(zs:List (Int × Int)) h1=>rootStop (g:=g) (rs:=rs) hlt hys (zs:=zs) h1)
    clear hcell hBr hOr hGr hys hjr hpv hsp hlen hcall
    generalize rs[k]=y at c0 HCALL HST HSX
    go_wp2_with fail
    refine HCALL.out.mono ?_
    rintro e W5 (⟨rfl,⟨zs,hzs,hj5⟩,hk5⟩|⟨rfl,zs,hzs,hj5⟩)
    ·have hst:=HST.out W5 zs hzs hj5 hk5
     dsimp only
     go_wp2
     go_roundg (rs.length-(k+1))
     case measure=>omega
     case rel=>exact⟨k+1,by omega,by omega,by go_num,(show Aside _ from hst)⟩
    ·have hsx:=HSX.out zs hzs
     dsimp only
     go_wp2
     refine bodyPost_ret (results_none rfl _ _ _) rfl ?_
     exact⟨⟨_,rfl⟩,.inr ⟨ys++zs,hsx,hj5⟩⟩
   ·have hltz:¬ (k:Int)<(rs.length:Int):=by omega
    obtain rfl:k=rs.length:=by omega
    go_wp2
    go_end0
    obtain⟨-,-,-,ys,hys,hjr⟩:=RW.out
    rw[List.take_length] at hys
    exact⟨⟨_,rfl⟩,.inl ⟨ys,hys,hjr⟩⟩
 ·obtain⟨b,hb⟩:=hid.resolve_left hz
  have hbt:belowT ⟨rs,l⟩ id=belowL ⟨rs,l⟩ l.length id:=by
   unfold belowT
   rw[if_neg hz]
  rw[hbt] at HNN ⊢
  have HC:=Lib.hid (HVi.out b hb 0 [] W2 HB2.out HO2.out HG2.out HJ2.out (by have:=HNN.out;simpa using this))
  generalize belowL ⟨rs,l⟩ l.length id=L at HC ⊢
  have hz':(id == 0)=false:=by simpa using hz
  have hi2:=HI2.out
  have hv2:=HV2.out
  rw[HW2.out] at hi2 hv2 HC
  obtain⟨cn,fn⟩:=cell_two W (.cells #[.func (.yield lp) #[] #[]] 186) .nilFunc 186
  have ho:=func_one (.func 222) #[.pointer (some ⟨W.heap.size,0,none⟩),.pointer (some ⟨Tb,0,none⟩),.pointer (some ⟨W.heap.size+1,0,none⟩)]
  clear hbt hb hid HVr HVi hz
  go_enter Tryz.func221,Tryz.ntmps221
  go_wp2_with fail
  refine HC.out.mono ?_
  rintro e W5 (⟨rfl,⟨zs,hzs,hj5⟩,hk5⟩|⟨rfl,zs,hzs,hj5⟩)
  ·dsimp only
   go_wp2
   refine bodyPost_ret (results_none rfl _ _ _) rfl ?_
   exact⟨⟨_,rfl⟩,.inl ⟨zs,hzs,by simpa using hj5⟩⟩
  ·dsimp only
   go_wp2
   refine bodyPost_ret (results_none rfl _ _ _) rfl ?_
   exact⟨⟨_,rfl⟩,.inr ⟨zs,hzs,by simpa using hj5⟩⟩
end
end Go.Proofs.YtdochkemaiokfaaGreat