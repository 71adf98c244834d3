/- Lemmas on what the functions of the program and of the library compute: Es4, PlainUa, TypesU, EqO, EqU, MapC, Bh, PlainEx, F1. The conditions stand at each. -/
import Derived.Test.YtdochkemaiokfaaGreatQ7
import Derived.Test.YtdochkemaiokfaaGreatQ8
import Derived.Test.YtdochkemaiokfaaGreatQ9
import Derived.Test.YtdochkemaiokfaaGreatQ3
import Derived.Test.YtdochkemaiokfaaGreatProg
import Derived.Test.YtdochkemaiokfaaGreatQ1
import Derived.Test.YtdochkemaiokfaaGreatQ5
import Derived.Test.YtdochkemaiokfaaGreatQ4
import Derived.Maps.OwnSet
import Derived.Maps.RangeWalk
import Derived.WideKeyEntry
import Derived.DeepKeys5
import Derived.MapViews
import Derived.Test.YtdochkemaiokfaaGreatQ2
import Derived.Shelf.Small.Bits
import Derived.Shelf.Small.Strs
import Derived.Shelf.Small.Wraps
import Derived.Shelf.Strings.Search3
import Derived.Shelf.LaysM
import Derived.Shelf.Strings.Shaped
import Derived.Shelf.Sort.Plain
import Derived.Shelf.Strings.FuncGrows
import Derived.Shelf.Slices.Reverse
import Derived.Ground.Names2Prog
import Derived.Shelf.Slices.SearchI
import Derived.Shelf.Slices.In.SortNone
import Derived.Sort.Grow
import Derived.Lib.ItoaLen
import Derived.Laws.Concat
set_option maxHeartbeats 16000000
set_option maxRecDepth 100000
set_option linter.all false
namespace Go.Proofs.YtdochkemaiokfaaGreat
open Go.RowKit
def Opn.cells (o:Opn):List Value:=[.int .i64 o.id,.int .i64 o.day,.int .i64 o.kind,.int .i64 o.unit,.int .i64 o.parent,.int .i64 o.before,.int .i64 o.level,.string o.title,.string o.mark,.int .i64 o.office,.int .i64 o.acc,.int .i64 o.num]
def Opn.agg (o:Opn):Value:=.agg #[.int .i64 o.id,.int .i64 o.day,.int .i64 o.kind,.int .i64 o.unit,.int .i64 o.parent,.int .i64 o.before,.int .i64 o.level,.string o.title,.string o.mark,.int .i64 o.office,.int .i64 o.acc,.int .i64 o.num]
structure TOk (t:Tr):Prop where
 sound:bG t
 few:cF t.brs
 roots:t.roots.length≤1000000
theorem TOk.asc {t:Tr} (h:TOk t):bP t.brs:=h.sound.asc
theorem TOk.len {t:Tr} (h:TOk t):t.brs.length≤1000000:=h.few.1
theorem TOk.kids {t:Tr} (h:TOk t) (p:Int):(aB t p).length≤1000000:=by
 unfold aB;by_cases h0:p=0
 ·rw[if_pos h0];exact h.roots
 ·rw[if_neg h0]
  cases hb:aE t.brs p with
  | none=>simp
  | some b =>
   obtain⟨k,hk,e⟩:=List.mem_iff_getElem.1 (bE hb).1;have:=h.few.2 k hk;rw[e] at this;exact this
def aBo (w0:World) (E:Nat) (t':Tr) (n:Int) (e:Ending) (w':World):Prop:=e=.returned (.int .i64 n)∧aA w0 w'∧(n=0→∃ bv',EdB w0.heap.size E bv' t' w')
section
variable {w0:World} {E:Nat} {bv:Value} {t:Tr} {w:World}
theorem EdB.at_ {base:Nat} (h:EdB base E bv t w) {i:Nat} (hi:i<t.brs.length):∃ B cap,bv=.slice (some ⟨B,0,none⟩) t.brs.length cap:=by
 obtain⟨rv,cs,hE⟩:=h;obtain⟨B,cap,hbv,-,-,-⟩:=fH hE.brs b_53;exact⟨B,cap,hbv⟩
theorem qJ {l:List Br} {n:Int} {b:Br} (h:aE l n=some b):∃ i,∃ hi:i<l.length,l[i]=b∧l[i].id=n:=by
 obtain⟨k,hk,_,e⟩:=gK h;exact⟨k,hk,e,by rw[e];exact(bE h).2⟩
theorem aFx {base:Nat} (h:EdB base E bv t w) (hT:TOk t) (p lv:Int) (hp:p=0∨∃ b,aE t.brs p=some b) :
  Calls Tryz.prog 130 #[.pointer (some ⟨E,0,none⟩),.int .i64 p,.int .i64 lv] w fun e w'=>e=.returned (.int .i64 (if dC t p lv then 0 else 18))∧aA w w':=by
 by_cases hz:p=0
 ·subst hz
  have hs:dC t 0 lv=(lv == 1):=by
   unfold dC;rw[if_pos rfl]
  rw[hs];cases hl:(lv == 1)
  all_goals
   go_enter Tryz.func130,Tryz.ntmps130;exact c_129
 ·obtain⟨b,hb⟩:=hp.resolve_left hz
  obtain⟨i,hi,eb,ei⟩:=qJ hb;obtain⟨B,cap,hbv⟩:=h.at_ hi
  have hs:dC t p lv=((lv != 1) && fX t.brs[i].level lv):=by
   unfold dC;rw[if_neg hz,hb,← eb];show fX t.brs[i].level lv=_
   cases hf:fX t.brs[i].level lv with
   | false=>rw[Bool.and_false]
   | true=>simp[aFs hf]
  rw[hs];have kB:=iO h hT.asc hT.len hi hbv;rw[ei] at kB;have hz':(p != 0)=true:=by simpa using hz
  obtain⟨rv,cs,hE⟩:=h;obtain⟨-,-,c2,-⟩:=hE.at_ hi hbv;have KB:=uZ kB;have KF:=uZ (aYb t.brs[i].level lv);generalize fX t.brs[i].level lv=q at KF ⊢;generalize t.brs[i].level=bl at c2 KF;have C2:=uZ c2;clear hE hb eb ei hs kB hbv hp hz c2 hT;cases hl:(lv != 1)
  ·go_enter Tryz.func130,Tryz.ntmps130
   exact c_129
  ·cases q
   all_goals
    go_enter Tryz.func130,Tryz.ntmps130;go_wp2_with fail;refine KB.out.mono ?_;rintro e w1 ⟨rfl,g1⟩;have c2:=uQ g1 C2.out;dsimp only;go_wp2_with fail;refine(KF.out _).mono ?_;rintro e w2 ⟨rfl,rfl⟩;dsimp only;go_wp2;go_ret;exact⟨rfl,g1⟩
theorem aTp {base:Nat} (h:EdB base E bv t w) (hT:TOk t) (m:ByteArray) (but:Int) :
  Calls Tryz.prog 132 #[.pointer (some ⟨E,0,none⟩),.string m,.int .i64 but] w fun e w'=>e=.returned (.bool (gF t m but))∧aA w w':=by
 rw[pT hT.sound];obtain⟨rv,-,hb,c0,c1,-,-⟩:=h.reads;have k:=aUh t.brs m rv bv w hb;unfold cM at k;generalize (if m.toList.isEmpty then none else t.brs.find? fun b=>b.mark.toList == m.toList)=O at k ⊢;unfold nJ at k;have K:=uZ k;clear k h hb hT
 cases O with
 | none =>
  go_enter Tryz.func132,Tryz.ntmps132;go_wp2_with fail;refine K.out.mono ?_;rintro e w1 ⟨rfl,g1⟩;dsimp only [Option.isSome_none];go_wp2;go_ret;exact⟨rfl,g1⟩
 | some b =>
  have hbe:(!(b.id == but))=(b.id != but):=rfl;simp only [hbe];go_enter Tryz.func132,Tryz.ntmps132;go_wp2_with fail;refine K.out.mono ?_;rintro e w1 ⟨rfl,g1⟩;dsimp only [Option.isSome_some];go_wp2;go_ret;exact⟨rfl,g1⟩
open Classical in
theorem aNf {base:Nat} (h:EdB base E bv t w) (hT:TOk t) (hE:Env w) :
  Calls Tryz.prog 135 #[.pointer (some ⟨E,0,none⟩)] w fun e w'=>e=.returned (.int .i64 (if aM t then 0 else 15))∧aA w w':=by
 obtain⟨rv,hr,hb,c0,c1,-,-⟩:=h.reads;obtain⟨rs,l⟩:=t;have k:=aUl rs l rv bv w hE hr hb hT.few hT.roots;have hS:=(oS _).2 hT.sound;obtain⟨q,hq⟩:∃ q:Int,(if aM ⟨rs,l⟩ then(0:Int) else 15)=q:=⟨_,rfl⟩
 have HQ:RowKit.Hid (∀ n:Int,(n=0↔aM ⟨rs,l⟩)→(n=0∨n=15)→n=q):=fun n h1 h2=>by
  rw[← hq];by_cases hT:aM ⟨rs,l⟩
  ·rw[if_pos hT]
   exact h1.2 hT
  ·rw[if_neg hT]
   exact h2.resolve_left fun h=>hT (h1.1 h)
 rw[hq];have K:=uZ k;have HS:=uZ hS;clear k h hb hr hT hE hq hS;go_enter Tryz.func135,Tryz.ntmps135;go_wp2_with fail;refine K.out.mono ?_;rintro e w1 ⟨i,n,rfl,hn,-,hs,g1⟩;have h1:=HQ.out n hn (hs HS.out);subst h1;have h2:=hs HS.out;clear HQ hn hs;dsimp only;rcases h2 with rfl|rfl
 ·go_wp2
  go_ret;exact⟨rfl,g1⟩
 ·go_wp2
  go_ret;exact⟨rfl,g1⟩
end
def eY (l:List Opn) (id:Int):Bool:=(l.countP fun o=>o.kind == 6 && o.unit == id) % 2 == 1
def cE (l:List Opn) (o:Opn):Bool:=o.kind != 6 && !eY l o.id
def cN (l:List Opn):List (Int × Opn):=(((List.range l.length).map fun(i:Nat)=>(i:Int)).zip l).filter fun p=>cE l p.2
noncomputable def bI:List (Int × Opn)→Tr→Tr × Int × Int
 | [],t=>(t,-1,0)
 | (i,o)::r,t=>if (aT t o).2=0 then bI r (aT t o).1 else(⟨[],[]⟩,i,(aT t o).2)
noncomputable def aG (l:List Opn):Tr × Int × Int:=bI (cN l) ⟨[],[]⟩
structure Cm where
 unit:Int
 office:Int
 acc:Int
 num:Int
deriving DecidableEq
def Opn.came (o:Opn):Cm:=⟨o.unit,o.office,o.acc,o.num⟩
def jR (c:Cm):List Cm→List Cm
 | []=>[c]
 | x::r=>if x.unit<c.unit then x::jR c r else c::x::r
def aW (l:List Opn):List Cm:=(l.filter fun o=>o.kind == 1).foldl (fun out o=>jR o.came out) []
def cJ (o:Opn):Bool:=(o.kind == 1 || o.kind == 4) && !o.mark.toList.isEmpty
def dS (l:List Opn) (m:ByteArray):Option Int:=(l.reverse.find? fun o=>cJ o && decide (o.mark=m)).map (·.unit)
def iW (l:List Cm) (c:Cm):Int :=
 if c.acc=0 then 0 else if l.any (fun x=>x.acc == c.acc && x.num == c.num)=true then 6 else if l.any (fun x=>x.acc == c.acc && x.office != c.office)=true then 10 else 0
def iA (c:Cm):Bool:=aN c.unit 1 1073741824 && (aN c.office 0 1073741824 && ((aN c.acc 1 1073741824 && aN c.num 1 9999) || (c.acc == 0 && c.num == 0)))
def dZ:List Cm→List Cm→Bool
 | _,[]=>true
 | pre,c::r=>iA c && ((match pre.getLast? with|none=>true|some p=>decide (p.unit<c.unit)) && (iW pre c == 0 && dZ (pre++[c]) r))
def sB (l:List Cm) (c:Cm):Int :=
 if 256<l.length∨dZ [] l=false then 1 else if iA c=false then 2 else if l.any (fun x=>x.unit == c.unit)=true then 6 else if iW l c≠0 then iW l c else if 256≤l.length then 8 else 0
def iZ (l:List Opn) (id:Int):Option Opn:=l.find? fun o=>o.id == id && o.kind != 6
def mB (l:List Opn) (o:Opn):Bool:=match l.getLast? with
 | none=>false
 | some p=>decide (o.id≤p.id) || decide (o.day<p.day)
def qU (l:List Opn) (o:Opn):Bool:=match dS l o.mark with
 | none=>false
 | some u=>u != o.unit
def eX (l:List Opn) (o:Opn):Int :=
 if 512≤l.length then 8 else if aP o=false then 1 else if mB l o=true then 5
 else if o.kind=1∧sB (aW l) o.came≠0 then sB (aW l) o.came
 else if (cJ o && qU l o)=true then 19
 else if o.kind=5∧(aW l).any (fun x=>x.unit == o.unit && x.acc != 0)=true then 21
 else if o.kind=6 then match iZ l o.unit with
  | none=>7
  | some p=>if p.kind=1∧p.acc≠0∧cE l p=true then 21 else 0
 else 0
noncomputable def bF (l:List Opn) (t:Tr) (o:Opn):Tr × Int × Int :=
 if eX l o≠0 then(t,-1,eX l o)
 else if o.kind=6 then(if (aG (l++[o])).2.2≠0 then(t,(aG (l++[o])).2.1,20) else((aG (l++[o])).1,-1,0))
 else if (aT t o).2≠0 then(t,(l.length:Int),(aT t o).2) else((aT t o).1,-1,0)
noncomputable def gB:List Opn→List Opn→Tr→Tr × Int × Int
 | _,[],t=>(t,-1,0)
 | pre,o::r,t=>if (bF pre t o).2.2=0 then gB (pre++[o]) r (bF pre t o).1 else(⟨[],[]⟩,(pre.length:Int),(bF pre t o).2.2)
noncomputable def cS (l:List Opn):Tr × Int × Int:=gB [] l ⟨[],[]⟩
def SlO (w:World) (v:Value) (l:List Opn):Prop:=Rd w 12 v (l.flatMap Opn.cells)
theorem SlO.mono {w w':World} {v:Value} {l:List Opn} (h:SlO w v l) (hg:aA w w'):SlO w' v l:=Rd.mono h hg
theorem SlO.nil (w:World):SlO w (.slice none 0 0) []:=Rd.nil w _
theorem SlO.open_ {w : World} {v : Value} {l : List Opn} (h : SlO w v l) : ∃ (A : Option Addr) (c : Nat), v = .slice A l.length c ∧ l.length ≤ c ∧ c ≤ maxLen ∧
      (0 < l.length → ∃ b off, A = some ⟨b, off, none⟩ ∧ b < w.heap.size ∧ ∀ W, aA w W → ∀ i (hi : i < l.length), W.cell? ⟨b, off + i * 12, none⟩ = some (.int .i64 l[i].id) ∧ W.cell? ⟨b, off + i * 12 + 1, none⟩ = some (.int .i64 l[i].day) ∧ W.cell? ⟨b, off + i * 12 + 2, none⟩ = some (.int .i64 l[i].kind) ∧ W.cell? ⟨b, off + i * 12 + 3, none⟩ = some (.int .i64 l[i].unit) ∧ W.cell? ⟨b, off + i * 12 + 4, none⟩ = some (.int .i64 l[i].parent) ∧ W.cell? ⟨b, off + i * 12 + 5, none⟩ = some (.int .i64 l[i].before) ∧ W.cell? ⟨b, off + i * 12 + 6, none⟩ = some (.int .i64 l[i].level) ∧ W.cell? ⟨b, off + i * 12 + 7, none⟩ = some (.string l[i].title) ∧ W.cell? ⟨b, off + i * 12 + 8, none⟩ = some (.string l[i].mark) ∧ W.cell? ⟨b, off + i * 12 + 9, none⟩ = some (.int .i64 l[i].office) ∧ W.cell? ⟨b, off + i * 12 + 10, none⟩ = some (.int .i64 l[i].acc) ∧ W.cell? ⟨b, off + i * 12 + 11, none⟩ = some (.int .i64 l[i].num)) := by
 obtain⟨A,c,hv,hn,hm,hr⟩:=Rd.open_ (k:=12) (f:=Opn.cells) (fun _=>rfl) b_53 h;refine⟨A,c,hv,hn,hm,fun h0=>?_⟩;obtain⟨b,off,hA,hb,hc⟩:=hr h0;exact⟨b,off,hA,hb,fun W hW i hi=>⟨by simpa [Opn.cells] using hc W hW i hi 0 b_53,by simpa [Opn.cells] using hc W hW i hi 1 b_53,by simpa [Opn.cells] using hc W hW i hi 2 b_53,by simpa [Opn.cells] using hc W hW i hi 3 b_53,by simpa [Opn.cells] using hc W hW i hi 4 b_53,by simpa [Opn.cells] using hc W hW i hi 5 b_53,by simpa [Opn.cells] using hc W hW i hi 6 b_53,by simpa [Opn.cells] using hc W hW i hi 7 b_53,by simpa [Opn.cells] using hc W hW i hi 8 b_53,by simpa [Opn.cells] using hc W hW i hi 9 b_53,by simpa [Opn.cells] using hc W hW i hi 10 b_53,by simpa [Opn.cells] using hc W hW i hi 11 b_53⟩⟩
def Cm.cells (x:Cm):List Value:=[.int .i64 x.unit,.int .i64 x.office,.int .i64 x.acc,.int .i64 x.num]
def Cm.agg (x:Cm):Value:=.agg #[.int .i64 x.unit,.int .i64 x.office,.int .i64 x.acc,.int .i64 x.num]
def SlC (w:World) (v:Value) (l:List Cm):Prop:=Rd w 4 v (l.flatMap Cm.cells)
theorem SlC.mono {w w':World} {v:Value} {l:List Cm} (h:SlC w v l) (hg:aA w w'):SlC w' v l:=Rd.mono h hg
theorem SlC.nil (w:World):SlC w (.slice none 0 0) []:=Rd.nil w _
theorem SlC.open_ {w : World} {v : Value} {l : List Cm} (h : SlC w v l) : ∃ (A : Option Addr) (c : Nat), v = .slice A l.length c ∧ l.length ≤ c ∧ c ≤ maxLen ∧
      (0 < l.length → ∃ b off, A = some ⟨b, off, none⟩ ∧ b < w.heap.size ∧ ∀ W, aA w W → ∀ i (hi : i < l.length), W.cell? ⟨b, off + i * 4, none⟩ = some (.int .i64 l[i].unit) ∧ W.cell? ⟨b, off + i * 4 + 1, none⟩ = some (.int .i64 l[i].office) ∧ W.cell? ⟨b, off + i * 4 + 2, none⟩ = some (.int .i64 l[i].acc) ∧ W.cell? ⟨b, off + i * 4 + 3, none⟩ = some (.int .i64 l[i].num)) := by
 obtain⟨A,c,hv,hn,hm,hr⟩:=Rd.open_ (k:=4) (f:=Cm.cells) (fun _=>rfl) b_53 h;refine⟨A,c,hv,hn,hm,fun h0=>?_⟩;obtain⟨b,off,hA,hb,hc⟩:=hr h0;exact⟨b,off,hA,hb,fun W hW i hi=>⟨by simpa [Cm.cells] using hc W hW i hi 0 b_53,by simpa [Cm.cells] using hc W hW i hi 1 b_53,by simpa [Cm.cells] using hc W hW i hi 2 b_53,by simpa [Cm.cells] using hc W hW i hi 3 b_53⟩⟩
structure Mk where
 mark:ByteArray
 unit:Int
deriving DecidableEq,Inhabited
def Mk.cells (x:Mk):List Value:=[.string x.mark,.int .i64 x.unit]
def Mk.agg (x:Mk):Value:=.agg #[.string x.mark,.int .i64 x.unit]
def SlM (w:World) (v:Value) (l:List Mk):Prop:=Rd w 2 v (l.flatMap Mk.cells)
theorem SlM.mono {w w':World} {v:Value} {l:List Mk} (h:SlM w v l) (hg:aA w w'):SlM w' v l:=Rd.mono h hg
theorem SlM.nil (w:World):SlM w (.slice none 0 0) []:=Rd.nil w _
theorem SlM.open_ {w : World} {v : Value} {l : List Mk} (h : SlM w v l) : ∃ (A : Option Addr) (c : Nat), v = .slice A l.length c ∧ l.length ≤ c ∧ c ≤ maxLen ∧
      (0 < l.length → ∃ b off, A = some ⟨b, off, none⟩ ∧ b < w.heap.size ∧ ∀ W, aA w W → ∀ i (hi : i < l.length), W.cell? ⟨b, off + i * 2, none⟩ = some (.string l[i].mark) ∧ W.cell? ⟨b, off + i * 2 + 1, none⟩ = some (.int .i64 l[i].unit)) := by
 obtain⟨A,c,hv,hn,hm,hr⟩:=Rd.open_ (k:=2) (f:=Mk.cells) (fun _=>rfl) b_53 h;refine⟨A,c,hv,hn,hm,fun h0=>?_⟩;obtain⟨b,off,hA,hb,hc⟩:=hr h0;exact⟨b,off,hA,hb,fun W hW i hi=>⟨by simpa [Mk.cells] using hc W hW i hi 0 b_53,by simpa [Mk.cells] using hc W hW i hi 1 b_53⟩⟩
theorem aMr {p:Prop} [Decidable p] {q b:Bool} {X:Result Value} {w:World} (h:X=.ok (.bool b) w) (hq:q=decide p:=by first|rfl|rw[Bool.eq_iff_iff,beq_iff_eq,decide_eq_true_eq]):(if p then X else .ok (.bool false) w)=.ok (.bool (q && b)) w:=by
 subst hq;by_cases hp:p
 ·rw[if_pos hp,h,decide_eq_true hp]
  rfl
 ·rw[if_neg hp,decide_eq_false hp]
  rfl
theorem aZv {p:Prop} [Decidable p] {q:Bool} {w:World} (hq:q=decide p:=by first|rfl|rw[Bool.eq_iff_iff,beq_iff_eq,decide_eq_true_eq]):(if p then Result.ok (Value.bool true) w else .ok (.bool false) w)=.ok (.bool q) w:=by
 subst hq;by_cases hp:p
 ·rw[if_pos hp,decide_eq_true hp]
 ·rw[if_neg hp,decide_eq_false hp]
@[go_sem ↓] theorem bEl (w:World) (x0 y0 x1 y1 x2 y2 x3 y3 x4 y4 x5 y5 x6 y6:Int) (x7 y7 x8 y8:ByteArray) (x9 y9 x10 y10 x11 y11:Int):(binOp .eql 26 (.agg #[.int .i64 x0,.int .i64 x1,.int .i64 x2,.int .i64 x3,.int .i64 x4,.int .i64 x5,.int .i64 x6,.string x7,.string x8,.int .i64 x9,.int .i64 x10,.int .i64 x11]) (.agg #[.int .i64 y0,.int .i64 y1,.int .i64 y2,.int .i64 y3,.int .i64 y4,.int .i64 y5,.int .i64 y6,.string y7,.string y8,.int .i64 y9,.int .i64 y10,.int .i64 y11])).run Tryz.prog w=.ok (.bool ((x0 == y0) && ((x1 == y1) && ((x2 == y2) && ((x3 == y3) && ((x4 == y4) && ((x5 == y5) && ((x6 == y6) && ((x7.toList == y7.toList) && ((x8.toList == y8.toList) && ((x9 == y9) && ((x10 == y10) && (x11 == y11))))))))))))) w:=by
 have hS:Tryz.prog.underlying 26=some (.struct (Tryz.prog.fieldsOf 26)):=by kernel_rfl
 have hp:Tryz.prog.stoodInHeld 26=false:=by kernel_rfl
 rw[run_eql_struct,show(10000:Nat)=9999+1 from rfl,run_equalIn_agg w 9999 26 _ _ hS hp];simp only [Program.fieldsOf,Tryz.underlying26];go_simp;exact aMr (aMr (aMr (aMr (aMr (aMr (aMr (aMr (aMr (aMr (aMr aZv))))))))))
@[go_sem ↓] theorem bEr (w:World) (x0 y0 x1 y1 x2 y2:Int) (x3 y3 x4 y4:ByteArray):(binOp .neq 64 (.agg #[.int .i64 x0,.int .i64 x1,.int .i64 x2,.string x3,.string x4]) (.agg #[.int .i64 y0,.int .i64 y1,.int .i64 y2,.string y3,.string y4])).run Tryz.prog w=.ok (.bool (!((x0 == y0) && ((x1 == y1) && ((x2 == y2) && ((x3.toList == y3.toList) && (x4.toList == y4.toList))))))) w:=by
 have hS:Tryz.prog.underlying 64=some (.struct (Tryz.prog.fieldsOf 64)):=by kernel_rfl
 have hp:Tryz.prog.stoodInHeld 64=false:=by kernel_rfl
 rw[run_neq_struct,show(10000:Nat)=9999+1 from rfl,run_equalIn_agg w 9999 64 _ _ hS hp];simp only [Program.fieldsOf,Tryz.underlying64];go_simp;by_cases h0:x0=y0
 ·by_cases h1:x1=y1
  ·by_cases h2:x2=y2
   ·by_cases h3:x3.toList=y3.toList
    ·by_cases h4:x4.toList=y4.toList<;>simp[h0,h1,h2,h3,h4]
    ·simp[h0,h1,h2,h3]
   ·simp[h0,h1,h2]
  ·simp[h0,h1]
 ·simp[h0]
theorem nZ {x y:ByteArray}:x.toList=y.toList↔x=y:=by
 rw[ByteArray.toList_eq,ByteArray.toList_eq];constructor
 ·intro h
  obtain⟨⟨a⟩⟩:=x;obtain⟨⟨b⟩⟩:=y;simpa using h
 ·exact fun h=>by rw[h]
end Go.Proofs.YtdochkemaiokfaaGreat




namespace Go.Proofs.YtdochkemaiokfaaGreat
open Go.RowKit Go.Maps
def aOv (u:Br):Value:=.agg #[.int .i64 u.id,.int .i64 u.parent,.int .i64 u.level,.string u.title,.string u.mark]
structure WfU (u:Br):Prop where
 id:(Lit.int .i64 u.id).wf=true
 parent:(Lit.int .i64 u.parent).wf=true
 level:(Lit.int .i64 u.level).wf=true
 title:u.title.size≤maxLen
 mark:u.mark.size≤maxLen
 kids:u.kids=[]
def kU (u:Br):Lit:=.string (keyBytes [.int .i64 u.id,.int .i64 u.parent,.int .i64 u.level,.string u.title.data.toList,.string u.mark.data.toList])
theorem bDq:64<Tryz.prog.types.size:=of_decide_eq_true (by kernel_rfl)
theorem aFj:Tryz.prog.keyType 64=true:=by kernel_rfl
theorem bEk:WideMaps.KeyLaw Tryz.prog 64:=deep_law_gate (by kernel_rfl) (of_decide_eq_true (by kernel_rfl)) bDq aFj (by kernel_rfl)
theorem aZq:Keyed Tryz.prog 64:=Keyed.of_law bEk
theorem aTv:Tryz.prog.cellsOf 64=5:=by kernel_rfl
theorem bAr:Tryz.prog.cellsOf 3=1:=by kernel_rfl
theorem bAq:Tryz.prog.cellsOf 9=1:=by kernel_rfl
theorem aVj (n:Nat) (c:Value):Tryz.prog.keyLits (n+1) 3 [c]=(match c with | .int q' x=>if q'=.i64∧(Lit.int .i64 x).wf=true then some [.int .i64 x] else none|_=>none):=by
 unfold Program.keyLits;rw[Tryz.underlying3];cases c<;>rfl
theorem aZn (n:Nat) (c:Value):Tryz.prog.keyLits (n+1) 9 [c]=(match c with | .string s=>if s.size≤maxLen then some [.string s.data.toList] else none|_=>none):=by
 unfold Program.keyLits;rw[Tryz.underlying9];cases c<;>rfl
theorem bCs (n:Nat) (a b c d e:Value):Tryz.prog.keyLits (n+1+1) 64 [a,b,c,d,e] =
  (((Tryz.prog.keyLits (n+1) 3 [a]).bind fun x1=>(Tryz.prog.keyLits (n+1) 3 [b]).bind fun x2=>(Tryz.prog.keyLits (n+1) 3 [c]).bind fun x3=>(Tryz.prog.keyLits (n+1) 9 [d]).bind fun x4=>(Tryz.prog.keyLits (n+1) 9 [e]).bind fun x5=>some [x1,x2,x3,x4,x5]).map List.flatten):=by
 conv=>lhs;unfold Program.keyLits
 rw[Tryz.underlying64];dsimp only;rw[aTv];rw[if_pos ⟨rfl,by decide +kernel⟩];simp only [List.mapM_cons,List.mapM_nil,bAr,bAq,List.drop_zero,List.drop_succ_cons,List.take_succ_cons,List.take_zero];generalize Tryz.prog.keyLits (n+1) 3 [a]=oa;generalize Tryz.prog.keyLits (n+1) 3 [b]=ob;generalize Tryz.prog.keyLits (n+1) 3 [c]=oc;generalize Tryz.prog.keyLits (n+1) 9 [d]=od;generalize Tryz.prog.keyLits (n+1) 9 [e]=oe;cases oa<;>cases ob<;>cases oc<;>cases od<;>cases oe<;>rfl
theorem aZr (v:Value):keyOf Tryz.prog 64 v=if v.formed Tryz.prog 64=true then(Tryz.prog.keyLits (Tryz.prog.types.size+1) 64 v.cells.toList).map (fun ls=>Lit.string (keyBytes ls)) else none:=by
 unfold keyOf;rw[Tryz.underlying64];dsimp only;rw[aFj,Bool.true_and]
theorem aWe (v:Value):v.formed Tryz.prog 64=true↔∃ a b c d e,v=.agg #[a,b,c,d,e]:=by
 unfold Value.formed;rw[Tryz.underlying64]
 cases v with
 | agg cs =>
  dsimp only;rw[aTv];constructor
  ·intro hf
   have hs:cs.size=5:=by simpa using hf
   obtain⟨l⟩:=cs
   match l,hs with
   | [a,b,c,d,e],_=>exact⟨a,b,c,d,e,rfl⟩
  ·rintro ⟨a,b,c,d,e,h⟩
   injection h with h;subst h;rfl
 | _ =>
  constructor
  ·intro h
   cases h
  ·rintro ⟨a,b,c,d,e,h⟩
   cases h
theorem aYi:∃ n,Tryz.prog.types.size+1=n+1+1:=⟨Tryz.prog.types.size-1,by have:=bDq;omega⟩
theorem bDu (u:Br) (h:WfU u):keyOf Tryz.prog 64 (aOv u)=some (kU u):=by
 obtain⟨n,hn⟩:=aYi;obtain⟨h1,h2,h3,h4,h5,-⟩:=h;rw[aZr,if_pos ((aWe (aOv u)).2 ⟨_,_,_,_,_,rfl⟩),hn,show(aOv u).cells.toList=[.int .i64 u.id,.int .i64 u.parent,.int .i64 u.level,.string u.title,.string u.mark] from rfl,bCs,aVj,aVj,aVj,aZn,aZn];simp only [h1,h2,h3,h4,h5,and_self,if_true,Option.bind_some,Option.map_some];rfl
theorem aZs {u v:Br} (hu:WfU u) (hv:WfU v) (h:kU u=kU v):u=v:=by
 have h1:=bDu u hu;have h2:=bDu v hv;rw[← h] at h2;have h3:=aZq.inj h1 h2;have k1:=hu.kids;have k2:=hv.kids;obtain⟨a1,a2,a3,a4,a5,a6⟩:=u;obtain⟨b1,b2,b3,b4,b5,b6⟩:=v;simp only [aOv,Value.agg.injEq,Array.mk.injEq,List.cons.injEq,Value.int.injEq,Value.string.injEq,true_and,and_true] at h3;obtain⟨rfl,rfl,rfl,rfl,rfl⟩:=h3;dsimp only at k1 k2;rw[k1,k2]
structure bDi (D:DataW Unit) (U:List Br):Prop where
 map:IsMap D
 at_:∀ u,WfU u→D.atKey (kU u) (.lit (.int .i64 0))=.lit (.int .i64 (U.count u))
 has_:∀ u∈U,has D (kU u)=true
 only:∀ kl,has D kl=true→∃ u∈U,kl=kU u
theorem bDi.nil:bDi (.map []) []:=⟨isMap_empty,fun _ _=>rfl,fun _ h=>(by cases h),fun _ h=>(by cases h)⟩
structure aEi (U:List Br) (left:Lit→Bool) (L:List Br):Prop where
 mem:∀ u,u∈L↔(U.count u=1∧left (kU u)=false)
theorem aEi.start {D:DataW Unit} {U:List Br} (h:bDi D U):aEi U (has D) []:=⟨fun u=>by
 constructor
 ·intro h;cases h
 ·rintro ⟨h1,h2⟩
  have hu:u∈U:=List.count_pos_iff.1 b_53;rw[h.has_ u hu] at h2
  cases h2⟩
theorem aEi.step {U L:List Br} {left:Lit→Bool} (h:aEi U left L) (hU:∀ v∈U,WfU v) {u:Br} (hu:WfU u):aEi U (fun z=>left z && !z.sameKey (kU u)) (if U.count u=1 then L++[u] else L):=by
 have key:∀ v,v∈U→((kU v).sameKey (kU u)=true↔v=u):=fun v hv=>by
  constructor
  ·exact fun e=>aZs (hU v hv) hu (WideAt.sameKey_eq e)
  ·intro e
   rw[e];simp[kU,Lit.sameKey]
 refine⟨fun v=>?_⟩;by_cases hv:v∈U
 ·have hk:=key v hv
  by_cases e:v=u
  ·subst e
   rw[hk.2 rfl];split
   ·rename_i h1
    simp[h1]
   ·rename_i h1
    rw[h.mem v];simp[h1]
  ·have hk2:(kU v).sameKey (kU u)=false:=by
    cases hs:(kU v).sameKey (kU u)
    ·rfl
    ·exact absurd (hk.1 hs) e
   rw[hk2];split
   ·rw[List.mem_append,h.mem v]
    simp[e]
   ·rw[h.mem v]
    simp
 ·have h0:U.count v=0:=List.count_eq_zero.2 hv
  have hne:v∉L:=fun hl=>by
   have:=((h.mem v).1 hl).1;omega
  have hcu:U.count u=1→v≠u:=fun h1 e=>by
   subst e;omega
  split
  ·rename_i h1
   simp[hne,hcu h1,h0]
  ·simp[hne,h0]
theorem aEi.done {U L:List Br} {left:Lit→Bool} (h:aEi U left L) (hl:∀ kl,left kl=false) (n:Int):n∈L.map Br.id↔∃ u,U.count u=1∧u.id=n:=by
 simp only [List.mem_map,h.mem,hl,and_true]
end Go.Proofs.YtdochkemaiokfaaGreat
namespace Go.Proofs.YtdochkemaiokfaaGreat
open Go.RowKit
theorem eN (w:World) (o:Obj):(w.alloc o).heap.size=w.heap.size+1:=by simp
theorem bCq {a b c:Prop} (ha:a) (hb:¬ b) (hc:¬ c):¬ (¬ a∨b∨c):=by
 rintro (h|h|h)
 ·exact h ha
 ·exact hb h
 ·exact hc h
def rM (P:Prop) (w:World) (e:Ending) (w':World):Prop:=∃ q:Bool,e=.returned (.bool q)∧(q=true→P)∧aA w w'
theorem rM.no {P:Prop} {w w':World} (hg:aA w w'):rM P w (.returned (.bool false)) w':=⟨false,rfl,fun h=>(Bool.false_ne_true h).elim,hg⟩
theorem rM.yes {P:Prop} {w w':World} (h:P) (hg:aA w w'):rM P w (.returned (.bool true)) w':=⟨true,rfl,fun _=>h,hg⟩
end Go.Proofs.YtdochkemaiokfaaGreat

