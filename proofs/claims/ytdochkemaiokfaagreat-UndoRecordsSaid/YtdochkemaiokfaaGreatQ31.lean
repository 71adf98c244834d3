/- Lemmas on what the functions of the program and of the library compute: UnC, PlainUj, CbO, UnK, PvA, PvB, PvC, InsC. The conditions stand at each. -/
import Derived.Test.YtdochkemaiokfaaGreatQ30
import Derived.Test.YtdochkemaiokfaaGreatQ3
import Derived.Test.YtdochkemaiokfaaGreatQ8
import Derived.Test.YtdochkemaiokfaaGreatQ2
import Derived.Test.YtdochkemaiokfaaGreatQ15
import Derived.Test.YtdochkemaiokfaaGreatQ1
import Derived.Lib.Bytealg
import Derived.Laws.EntriesVeiled
import Derived.Test.YtdochkemaiokfaaGreatQ29
import Derived.Test.YtdochkemaiokfaaGreatQ16
import Derived.BigQuiet
import Derived.Test.YtdochkemaiokfaaGreatQ4
import Derived.Test.YtdochkemaiokfaaGreatQ5
set_option maxHeartbeats 16000000
set_option maxRecDepth 100000
set_option linter.all false
namespace Go.Proofs.YtdochkemaiokfaaGreat
open Go.RowKit
def clK (l:List Opn) (k:Nat):List Cm:=((l.take k).filter fun o=>o.kind == 1).map Opn.came
theorem aRz (l:List Opn) (k:Nat) (h:k<l.length):clK l (k+1)=clK l k++if l[k].kind == 1 then[l[k].came] else[]:=by
 unfold clK;rw[List.take_succ_eq_append_getElem h,List.filter_append,List.map_append]
 congr 1
 cases hc:(l[k].kind == 1)<;>simp[hc]
theorem aNt (l:List Opn) (k:Nat):(clK l k).length≤l.length:=by
 unfold clK;rw[List.length_map];refine Nat.le_trans (List.length_filter_le _ _) ?_;rw[List.length_take];omega
theorem vG (c:Cm):∀ l:List Cm,(l++[c]).Perm (jR c l)
 | []=>List.Perm.refl _
 | x::r=>by
  unfold jR;split
  ·exact(vG c r).cons x
  ·exact List.perm_append_comm
theorem rY:∀(n:Nat) (l:List Opn),l.length=n→(clK l l.length).Perm (aW l)
 | 0,l,hn=>by rw[List.eq_nil_of_length_eq_zero hn];exact List.Perm.refl _
 | n+1,l,hn=>by
  have hb:l≠[]:=by intro e;rw[e] at hn;cases hn
  have hl:l.dropLast.length=n:=by rw[List.length_dropLast];omega
  have ih:=rY n l.dropLast hl;have hs:l=l.dropLast++[l.getLast hb]:=(List.dropLast_concat_getLast hb).symm;generalize l.dropLast=m at ih hs;generalize l.getLast hb=o at hs;subst hs;rw[gY]
  have e1:clK (m++[o]) (m++[o]).length=clK m m.length++if o.kind == 1 then[o.came] else[]:=by
   unfold clK;rw[List.take_length,List.take_length,List.filter_append,List.map_append]
   congr 1
   cases hc:(o.kind == 1)<;>simp[hc]
  rw[e1];by_cases h:o.kind=1
  ·rw[if_pos h,if_pos b_49]
   exact(List.Perm.append_right _ ih).trans (vG _ _)
  ·rw[if_neg h,if_neg b_49,List.append_nil]
   exact ih
def aWw (m:List Cm) (w:World) (e:Ending) (w':World):Prop:=∃ A c,e=.returned (.slice A m.length c)∧w'.ownsRow w.heap.size 69 4 (.slice A m.length c) m.length (m.flatMap Cm.cells)∧aA w w'
theorem yT (l:List Opn) (lv:Value) (w:World) (hv:SlO w lv l) (hlen:l.length≤1000000) (hasc:(aW l).Pairwise fun a b=>a.unit<b.unit):Calls Tryz.prog 52 #[lv] w (aWw (aW l) w):=by
 have KS:=uZ (fun(h0:0<(clK l l.length).length) v W ho hg=>aJu (clK l l.length) (aW l) h0 (rY _ l rfl) hasc w v W ho hg (Nat.le_trans (aNt l _) hlen));have KZ:=uZ (fun(A:Option Addr) c fv W=>aYg A c fv W);have HLN:=uZ (aNt l);have HCS:=uZ (aRz l);have HPM:=uZ (rY _ l rfl).length_eq;have HNIL:=uZ (fun(h:(clK l l.length).length=0)=>(show aW l=[] from List.eq_nil_of_length_eq_zero (by rw[← (rY _ l rfl).length_eq,h])));generalize aW l=M at KS HPM HNIL ⊢;obtain⟨i0,hi,hz0,hz1,hz2⟩:=info_parts aAu;obtain⟨A,c,rfl,hlc,hcap,hr⟩:=hv.open_;unfold maxLen at hcap;have HR:=uZ hr;clear hv hr hasc;go_enter Tryz.func52,Tryz.ntmps52;go_wp2;go_loopg [3,8] l.length (fun gg s3 s8 wr=>∃ kk:Nat,kk≤l.length∧l.length-kk≤gg∧s8=.int .i64 kk∧Aside (wr.ownsRow w.heap.size 69 4 s3 (clK l kk).length ((clK l kk).flatMap Cm.cells))∧Aside (aA w wr))
 case atStart=>exact⟨0,by omega,by omega,rfl,(show Aside _ from World.ownsRow_nil _ _ _ _),(show Aside _ from uX w)⟩
 case round =>
  obtain⟨kk,hkk,hgk,rfl,OW,GW⟩:=hrel;by_cases hlt:kk<l.length
  case neg =>
   have hltz:=h_197;obtain rfl:kk=l.length:=by omega
   have how:=OW.out;obtain⟨A3,c3,rfl⟩:=aJ how;have HOW:=uZ how;clear how OW;by_cases h0:0<(clK l l.length).length
   ·have HK:=uZ (KS.out h0 _ wr HOW.out GW.out)
    go_wp2_with fail;refine HK.out.mono ?_;rintro e w4 ⟨rfl,ho4,g4⟩;have HO4:=uZ ho4;have HG4:=uZ g4;have HE:=uZ HPM.out;clear ho4 g4;dsimp only;go_wp2;go_ret;refine⟨A3,c3,?_,?_,HG4.out⟩
    ·rw[← HE.out];rfl
    ·rw[← HE.out]
     have:=HO4.out;rw[← HE.out] at this;exact this
   ·have hz:(clK l l.length).length=0:=by omega
    have hM:=HNIL.out hz;subst hM;have HZ:=uZ hz;clear h0;have hcl:clK l l.length=[]:=List.eq_nil_of_length_eq_zero hz;rw[hcl] at HOW ⊢;clear hcl hz HZ KS HPM HNIL;go_wp2_with fail;refine(KZ.out _ _ _ _).mono ?_;rintro e w4 ⟨rfl,rfl⟩;dsimp only;go_wp2;go_ret;exact⟨A3,c3,rfl,HOW.out,GW.out⟩
  case pos =>
   have hltz:=h_201;obtain⟨b,off,rfl,hbb,hcell⟩:=HR.out b_53;obtain⟨c0,c1,c2,c3,c4,c5,c6,c7,c8,c9,c10,c11⟩:=hcell wr GW.out kk hlt;have hcs:=HCS.out kk hlt;have hln:=HLN.out kk;have hln2:(clK l kk).length≤1000000:=Nat.le_trans hln hlen;generalize l[kk]=y at c0 c1 c2 c3 c4 c5 c6 c7 c8 c9 c10 c11 hcs;generalize hK2:clK l (kk+1)=CK2 at hcs;have HK2:=uZ hK2;generalize clK l kk=CK at OW hcs hln hln2;have HCC:=uZ hcs;clear hcell hcs hK2 hln;obtain⟨o0,o1,o2,o3,o4,o5,o6,o7,o8,o9,o10,o11⟩:=y;dsimp only [Opn.came] at HCC c0 c1 c2 c3 c4 c5 c6 c7 c8 c9 c10 c11;cases hk:(o2 == 1)
   ·have HE:RowKit.Hid (CK2=CK):=by
     show CK2=CK;rw[HCC.out,hk];simp
    go_wp2;go_roundg (l.length-(kk+1))
    case measure=>omega
    case rel=>exact⟨kk+1,by omega,by omega,by go_num,(show Aside _ from by rw[HK2.out,HE.out];exact aZ OW.out ((uX _).alloc _)),(show Aside _ from GW.out.alloc _)⟩
   ·have HE:RowKit.Hid (CK2=CK++[⟨o3,o9,o10,o11⟩]):=by
     show CK2=_;rw[HCC.out,hk];rfl
    obtain⟨A3,c3',rfl⟩:=aJ OW.out;go_wp2_with (at_builtin;refine aXi rfl _ _ 50 rfl w 69 i0 (.agg #[.int .i64 0,.int .i64 0,.int .i64 0,.int .i64 0]) 4 32 Tryz.underlying50 hi hz0 hz1 hz2 rfl b_53 _ _ _ b_55 _ (aZ OW.out (((uX _).alloc _).alloc _)) ((GW.out.alloc _).alloc _) _ 1 [.int .i64 o3,.int .i64 o9,.int .i64 o10,.int .i64 o11] b_55 (gE _ rfl _ b_54) rfl b_45 b_47 b_53 ?_;intro v8 w8 hown8 hg8 hkp8)
    have HO8:=uZ hown8;have HG8:=uZ hg8;clear hown8 hg8 hkp8;go_roundg (l.length-(kk+1))
    case measure=>omega
    case rel=>exact⟨kk+1,by omega,by omega,by go_num,(show Aside _ from by rw[HK2.out,HE.out,List.flatMap_append,List.length_append];exact HO8.out),(show Aside _ from HG8.out)⟩
def iY (a b:Cm):Prop:=b.acc=0∨a.acc≠b.acc∨(a.num≠b.num∧a.office=b.office)
theorem zV {a b:Cm} (h:iY a b):iY b a:=by
 unfold iY at h ⊢;by_cases h1:a.acc=0
 ·exact .inl h1
 ·rcases h with h|h|⟨h2,h3⟩
  ·exact .inr (.inl b_53)
  ·exact .inr (.inl (fun e=>h e.symm))
  ·exact .inr (.inr ⟨fun e=>h2 e.symm,h3.symm⟩)
theorem qN (l:List Cm) (c:Cm):iW l c=0↔∀ x∈l,iY x c:=by
 unfold iW;by_cases h0:c.acc=0
 ·rw[if_pos h0]
  exact⟨fun _ x _=>.inl h0,fun _=>rfl⟩
 rw[if_neg h0];constructor
 ·intro h x hx
  split at h
  ·cases h
  ·rename_i h1
   split at h
   ·cases h
   ·rename_i h2
    simp only [List.any_eq_true,Bool.and_eq_true,beq_iff_eq,bne_iff_ne,not_exists,not_and] at h1 h2;by_cases ha:x.acc=c.acc
    ·refine .inr (.inr ⟨h1 x hx ha,?_⟩)
     have:=h2 x hx ha;exact Classical.not_not.1 this
    ·exact .inr (.inl ha)
 ·intro h
  rw[if_neg,if_neg]
  ·simp only [List.any_eq_true,Bool.and_eq_true,beq_iff_eq,bne_iff_ne,not_exists,not_and,ne_eq,Classical.not_not]
   intro x hx ha;rcases h x hx with h|h|⟨_,h⟩
   ·exact absurd h h0
   ·exact absurd ha h
   ·exact h
  ·simp only [List.any_eq_true,Bool.and_eq_true,beq_iff_eq,not_exists,not_and]
   intro x hx ha;rcases h x hx with h|h|⟨h,_⟩
   ·exact absurd h h0
   ·exact absurd ha h
   ·exact h
def aUz (pre:List Cm) (c:Cm):Bool:=match pre.getLast? with
 | none=>true
 | some p=>decide (p.unit<c.unit)
theorem aBz (pre:List Cm) (c:Cm) (r:List Cm):dZ pre (c::r)=(iA c && (aUz pre c && (iW pre c == 0 && dZ (pre++[c]) r))):=rfl
theorem pY:∀(r pre:List Cm),pre.Pairwise (fun a b=>a.unit<b.unit)→(dZ pre r=true↔(∀ c∈r,iA c=true)∧(pre++r).Pairwise (fun a b=>a.unit<b.unit)∧(∀ a∈pre,∀ b∈r,iY a b)∧r.Pairwise iY)
 | [],pre,hp=>by simp[dZ,hp]
 | c::r,pre,hp=>by
  rw[aBz];simp only [Bool.and_eq_true,beq_iff_eq]
  have hlast:aUz pre c=true↔∀ a∈pre,a.unit<c.unit:=by
   unfold aUz
   cases hg:pre.getLast? with
   | none=>rw[List.getLast?_eq_none_iff.1 hg];simp
   | some p =>
    obtain⟨m,hm⟩:=List.getLast?_eq_some_iff.1 hg;subst hm;simp only [decide_eq_true_eq];constructor
    ·intro h a ha
     rcases List.mem_append.1 ha with ha|ha
     ·have:=(List.pairwise_append.1 hp).2.2 a ha p b_54
      omega
     ·rw[List.mem_singleton.1 ha];exact h
    ·exact fun h=>h p b_54
  rw[hlast,qN];constructor
  ·rintro ⟨h1,h2,h3,h4⟩
   have hp2:(pre++[c]).Pairwise (fun a b=>a.unit<b.unit):=List.pairwise_append.2 ⟨hp,by simp,fun a ha b hb=>by rw[List.mem_singleton.1 hb];exact h2 a ha⟩;obtain⟨k1,k2,k3,k4⟩:=(pY r (pre++[c]) hp2).1 h4;refine⟨fun x hx=>?_,?_,fun a ha b hb=>?_,?_⟩
   ·rcases List.mem_cons.1 hx with rfl|hx
    ·exact h1
    ·exact k1 x hx
   ·rwa [List.append_assoc,List.singleton_append] at k2
   ·rcases List.mem_cons.1 hb with rfl|hb
    ·exact h3 a ha
    ·exact k3 a (by simp[ha]) b hb
   ·exact List.pairwise_cons.2 ⟨fun b hb=>k3 c b_54 b hb,k4⟩
  ·rintro ⟨k1,k2,k3,k4⟩
   have k2':(pre++[c]++r).Pairwise (fun a b=>a.unit<b.unit):=by rwa [List.append_assoc,List.singleton_append]
   have hp2:=(List.pairwise_append.1 k2').1;obtain⟨k41,k42⟩:=List.pairwise_cons.1 k4;refine⟨k1 c b_54,fun a ha=>(List.pairwise_append.1 hp2).2.2 a ha c b_54,fun a ha=>k3 a ha c b_54,(pY r (pre++[c]) hp2).2 ⟨fun x hx=>k1 x (by simp[hx]),k2',fun a ha b hb=>?_,k42⟩⟩;rcases List.mem_append.1 ha with ha|ha
   ·exact k3 a ha b (by simp[hb])
   ·rw[List.mem_singleton.1 ha];exact k41 b hb
theorem mU (l:List Cm):dZ [] l=true↔(∀ c∈l,iA c=true)∧l.Pairwise (fun a b=>a.unit<b.unit)∧l.Pairwise iY:=by
 rw[pY l [] List.Pairwise.nil];simp
theorem pC (c:Cm):∀ l:List Cm,l.Pairwise iY→(∀ x∈l,iY x c)→(jR c l).Pairwise iY
 | [],_,_=>by simp[jR]
 | y::r,h,hn=>by
  obtain⟨h1,h2⟩:=List.pairwise_cons.1 h;unfold jR;split
  ·refine List.pairwise_cons.2 ⟨fun x hx=>?_,pC c r h2 fun x hx=>hn x (List.mem_cons_of_mem _ hx)⟩
   rcases (mA _ _ _).1 hx with rfl|hx
   ·exact hn y List.mem_cons_self
   ·exact h1 x hx
  ·refine List.pairwise_cons.2 ⟨fun x hx=>zV (hn x hx),h⟩
theorem nD {l:List Opn} (h:gD l):(aW l).length≤256∧dZ [] (aW l)=true:=by
 induction h with
 | nil=>exact⟨by simp[aW],rfl⟩
 | @snoc l o h ha ih =>
  rw[gY];split
  ·rename_i hk
   obtain⟨k1,k2,k3,k4,k5⟩:=aBh ((qK (gL ha)).1 hk);obtain⟨r1,r2,r3⟩:=(mU _).1 k2;refine⟨by rw[sX];omega,(mU _).2 ⟨fun x hx=>?_,tB _ _ r2 k4,pC _ _ r3 ((qN _ _).1 k5)⟩⟩;rcases (mA _ _ _).1 hx with rfl|hx
   ·exact k3
   ·exact r1 x hx
  ·exact ih
theorem qX {o:Opn} (hf:aP o=true) (hk:o.kind=1):iA o.came=true:=by
 unfold aP pB iU at hf;rw[if_pos hk] at hf;simp only [Bool.and_eq_true] at hf;obtain⟨-,-,h1,-,-,-,-,h2,h3⟩:=hf;unfold iA Opn.came;simp only [Bool.and_eq_true];exact⟨h1,h2,h3⟩
theorem aBg {l:List Opn} (h:gD l) {o:Opn} (hf:aP o=true) (hk:o.kind=1) (hc:(ofC (aW l) o.unit).isSome=true):sB (aW l) o.came=6:=by
 obtain⟨h1,h2⟩:=nD h;unfold sB;rw[if_neg (by rw[h2];simp;omega),if_neg (by rw[qX hf hk];decide),if_pos];rw[List.any_eq_true]
 cases hx:ofC (aW l) o.unit with
 | none=>rw[hx] at hc;cases hc
 | some c =>
  unfold ofC at hx;exact⟨c,List.mem_of_find?_eq_some hx,List.find?_some (p:=fun c:Cm=>c.unit == o.unit) hx⟩
theorem aFq {l:List Cm} (h:l.Pairwise fun a b=>a.unit<b.unit) (u:Int):(l.any fun x=>x.unit == u && x.acc != 0)=match ofC l u with
 | none=>false
 | some c=>c.acc != 0:=by
 cases hx:ofC l u with
 | none =>
  unfold ofC at hx;rw[List.find?_eq_none] at hx;rw[List.any_eq_false];intro y hy;have:=hx y hy;simp only [Bool.and_eq_true,not_and];exact fun e=>absurd e this
 | some c =>
  have hc:c∈l∧c.unit=u:=by
   unfold ofC at hx;exact⟨List.mem_of_find?_eq_some hx,by have:=List.find?_some hx;simpa using this⟩
  show _=(c.acc != 0)
  rw[Bool.eq_iff_iff,List.any_eq_true];constructor
  ·rintro ⟨y,hy,h2⟩
   simp only [Bool.and_eq_true,beq_iff_eq] at h2;have:=aTi h hy;rw[h2.1,hx] at this;rw[Option.some.inj this];exact h2.2
  ·exact fun h2=>⟨c,hc.1,by simp[hc.2,h2]⟩
theorem aIg {l:List Opn} (h:aIw l) {p:Opn} (hp:p∈l):((cN l).any fun q=>q.2.id == p.id)=cE l p:=by
 rw[Bool.eq_iff_iff,List.any_eq_true];constructor
 ·rintro ⟨q,hq,he⟩
  obtain⟨h1,h2⟩:=aNm hq;have:q.2=p:=aFo h.ids h1 hp (by simpa using he);rw[← this];exact h2
 ·intro hc
  obtain⟨i,hi⟩:=aNl hp hc;exact⟨_,hi,by simp⟩
theorem tL:∀ a b:List UInt8,Lib.compareBytes a b=-1∨Lib.compareBytes a b=0∨Lib.compareBytes a b=1
 | [],[]=>.inr (.inl rfl)
 | [],_::_=>.inl rfl
 | _::_,[]=>.inr (.inr rfl)
 | a::ra,b::rb=>by
  rw[Lib.compareBytes];split
  ·exact .inl rfl
  ·split
   ·exact .inr (.inr rfl)
   ·exact tL ra rb
theorem aNy:∀ a b:List UInt8,Lib.compareBytes a b=0↔a=b
 | [],[]=>by simp[Lib.compareBytes]
 | [],_::_=>by simp[Lib.compareBytes]
 | _::_,[]=>by simp[Lib.compareBytes]
 | a::ra,b::rb=>by
  rw[Lib.compareBytes];split
  ·rename_i h
   simp only [List.cons.injEq];constructor
   ·intro h;cases h
   ·rintro ⟨rfl,_⟩
    exact absurd h (UInt8.lt_irrefl _)
  ·rename_i h
   split
   ·rename_i h2
    simp only [List.cons.injEq];constructor
    ·intro h;cases h
    ·rintro ⟨rfl,_⟩
     exact absurd h2 (UInt8.lt_irrefl _)
   ·rename_i h2
    rw[aNy ra rb];have:a=b:=UInt8.le_antisymm (UInt8.not_lt.1 h2) (UInt8.not_lt.1 h);simp[this]
theorem aAy:∀ a b c:List UInt8,Lib.compareBytes a b=-1→Lib.compareBytes b c=-1→Lib.compareBytes a c=-1
 | [],[],_=>by intro h;cases h
 | [],_::_,[]=>by intro _ h;cases h
 | [],_::_,_::_=>by intros;rfl
 | _::_,[],_=>by intro h;cases h
 | _::_,_::_,[]=>by intro _ h;cases h
 | a::ra,b::rb,c::cs=>by
  simp only [Lib.compareBytes,UInt8.lt_iff_toNat_lt];intro h1 h2;have ih:=aAy ra rb cs;by_cases p1:a.toNat<b.toNat
  ·by_cases q1:b.toNat<c.toNat
   ·rw[if_pos b_53]
   ·rw[if_neg q1] at h2
    by_cases q2:c.toNat<b.toNat
    ·rw[if_pos q2] at h2;cases h2
    ·rw[if_pos b_53]
  ·rw[if_neg p1] at h1
   by_cases p2:b.toNat<a.toNat
   ·rw[if_pos p2] at h1;cases h1
   ·rw[if_neg p2] at h1
    by_cases q1:b.toNat<c.toNat
    ·rw[if_pos b_53]
    ·rw[if_neg q1] at h2
     by_cases q2:c.toNat<b.toNat
     ·rw[if_pos q2] at h2;cases h2
     ·rw[if_neg q2] at h2
      rw[if_neg b_53,if_neg b_53];exact ih h1 h2
def qV (a b:ByteArray):Prop:=Lib.compareBytes a.data.toList b.data.toList=-1
theorem aNx:∀ a b:List UInt8,Lib.compareBytes a b=1→Lib.compareBytes b a=-1
 | [],[],h=>by simp[Lib.compareBytes] at h
 | [],_::_,h=>by simp[Lib.compareBytes] at h
 | _::_,[],_=>by simp[Lib.compareBytes]
 | a::x,b::y,h=>by
  have ih:=aNx x y;rw[Lib.compareBytes] at h ⊢;by_cases h1:a<b
  ·simp[h1] at h
  ·by_cases h2:b<a
   ·simp[h2]
   ·simp only [h1,h2,if_false] at h ⊢
    exact ih h
theorem rT {a:ByteArray}:¬ qV a a:=fun h=>by
 rw[qV,(aNy _ _).2 rfl] at h;cases h
theorem jN {a b c:ByteArray} (h:qV a b) (k:qV b c):qV a c:=aAy _ _ _ h k
theorem xC (a b:ByteArray):qV a b∨a=b∨qV b a:=by
 rcases tL a.data.toList b.data.toList with h|h|h
 ·exact .inl h
 ·refine .inr (.inl ?_)
  have:=(aNy _ _).1 h;obtain⟨⟨x⟩⟩:=a;obtain⟨⟨y⟩⟩:=b;simpa using this
 ·exact .inr (.inr (aNx _ _ h))
theorem aVi {a b c:ByteArray} (h:¬ qV a b) (k:¬ qV b c):¬ qV a c:=fun q=>by
 rcases xC a b with h1|rfl|h1
 ·exact h h1
 ·exact k q
 ·exact k (jN h1 q)
end Go.Proofs.YtdochkemaiokfaaGreat


namespace Go.Proofs.YtdochkemaiokfaaGreat
open Go.RowKit Go.Maps
theorem aAc:Keyed Tryz.prog 9:=string_keyed Tryz.underlying9
def kT (m:ByteArray):Lit:=.string m.data.toList
theorem bBq (m:ByteArray) (h:m.size≤maxLen):keyOf Tryz.prog 9 (.string m)=some (kT m):=by
 unfold keyOf;rw[Tryz.underlying9];simp[kT,mapKey,Tryz.underlying9,h]
theorem aTm {a b:ByteArray} (h:kT a=kT b):a=b:=by
 unfold kT at h;injection h with h;obtain⟨⟨x⟩⟩:=a;obtain⟨⟨y⟩⟩:=b;simpa using h
def aSn (l:List Opn) (D:DataW Unit):Prop:=∀ m:ByteArray,has D (kT m)=(dS l m).isSome∧D.atKey (kT m) (.lit (.int .i64 0))=.lit (.int .i64 ((dS l m).getD 0))
theorem aQf:aSn [] (.map []):=fun _=>⟨rfl,rfl⟩
theorem jK (l:List Opn) (o:Opn) (m:ByteArray):dS (l++[o]) m=if cJ o=true∧o.mark=m then some o.unit else dS l m:=by
 unfold dS;rw[List.reverse_append,List.reverse_singleton,List.singleton_append,List.find?_cons];by_cases h:cJ o=true∧o.mark=m
 ·rw[if_pos h]
  have:(cJ o && decide (o.mark=m))=true:=by rw[h.1,decide_eq_true h.2];rfl
  rw[this];rfl
 ·rw[if_neg h]
  have:(cJ o && decide (o.mark=m))=false:=by
   cases hm:cJ o
   ·rfl
   ·rw[hm] at h
    rw[decide_eq_false (fun e=>h ⟨rfl,e⟩)];rfl
  rw[this]
theorem oY {l:List Opn} {D:DataW Unit} (h:aSn l D) {o:Opn} (hk:cJ o=false):aSn (l++[o]) D:=fun m=>by
 rw[jK,if_neg (by rw[hk];simp)];exact h m
theorem aFa {l:List Opn} {D:DataW Unit} (h:aSn l D) (hD:IsMap D) {o:Opn} (hk:cJ o=true):aSn (l++[o]) (D.put (kT o.mark) (.lit (.int .i64 o.unit))):=fun m=>by
 rw[jK];by_cases he:o.mark=m
 ·subst he
  rw[if_pos ⟨hk,rfl⟩];exact⟨has_put_same hD (show WideAt.IsKeyLit (kT o.mark) from trivial) _,atKey_put_same hD (show WideAt.IsKeyLit (kT o.mark) from trivial) _ _⟩
 ·rw[if_neg (fun k=>he k.2)]
  have hne:kT m≠kT o.mark:=fun e=>he (aTm e).symm
  rw[has_put_other hne,atKey_put_other hne];exact h m
theorem kV {P:Program} {e:TypeId} {q:IntKind} (he:P.underlying e=some (.int q)) {v:Value} {z:DataW Unit × List MemPlace} (h:plainElem P e v=some z):∃ a,v=.int q a∧z=(.lit (.int q a),[]):=by
 obtain⟨a,h1,h2,-⟩:=plainElem_int_inv he h;exact⟨a,h1,h2⟩
theorem aLi {l:List Opn} {D:DataW Unit} (h:aSn l D) {w:World} {M n:Nat} (ho:w.ownsMap Tryz.prog 9 (plainElem Tryz.prog 3) M n D) {m:ByteArray} (hw:m.size≤maxLen) :
  (Instr.lookup 79 (.map (some M)) (.string m) true).run Tryz.prog w=.ok (.tuple #[.int .i64 ((dS l m).getD 0),.bool (dS l m).isSome]) w:=by
 have hz:(zeroValue 3).run Tryz.prog w=.ok (.int .i64 0) w:=by kernel_rfl
 obtain⟨v,ps,hrun,hv⟩:=ho.look_ok aAc Tryz.underlying79 hz (plainElem_int Tryz.underlying3 b_52) (bBq m hw);obtain⟨a,rfl,hb⟩:=kV Tryz.underlying3 hv;simp only [Prod.mk.injEq] at hb;have:=hb.1;obtain⟨h1,h2⟩:=h m;rw[h2] at this;simp only [DataW.lit.injEq,Lit.int.injEq] at this;rw[hrun,h1,this.2]
structure fG (w0:World) (KB MB:Nat) (l:List Opn) (t:Tr) (W:World):Prop where
 g:aA w0 W
 kb:w0.heap.size≤KB
 mb:w0.heap.size≤MB
 cell:∃ A n c B m d E k f C q,W.heap[KB]? = some (.cells #[.slice E l.length k,.slice A n c,.slice B m d,.slice C (aW l).length q,.map (some MB)] 81 (0,0))∧f=(0:Nat)∧SlO W (.slice E l.length k) l∧dF W (.slice A n c) (.slice B m d) t∧SlC W (.slice C (aW l).length q) (aW l)
 owns:∃ n D,W.ownsMap Tryz.prog 9 (plainElem Tryz.prog 3) MB n D∧n≤l.length∧aSn l D
theorem fG.grew {w0 W W':World} {KB MB:Nat} {l:List Opn} {t:Tr} (h:fG w0 KB MB l t W) (g:aA W W'):fG w0 KB MB l t W':=by
 obtain⟨A,n,c,B,m,d,E,k,f,C,q,h1,h2,h3,h4,h5⟩:=h.cell;obtain⟨n2,D,k1,k2,k3⟩:=h.owns;exact⟨h.g.trans g,h.kb,h.mb,⟨A,n,c,B,m,d,E,k,f,C,q,aD g h1,h2,h3.mono g,h4.mono g,h5.mono g⟩,n2,D,gT k1 g,k2,k3⟩
theorem aGm {l:List Opn} (h:gD l):aBl (aG l).1:=by
 refine uN aBl _ _ tF (fun p hp t ht h0=>oJ (rF h0).2) (by show(aG l).2.2=0;rw[yG h])
end Go.Proofs.YtdochkemaiokfaaGreat
namespace Go.Proofs.YtdochkemaiokfaaGreat
open Go.RowKit
theorem wT (n lo hi:Int) (w:World):Calls Tryz.prog 174 #[.int .i64 n,.int .i64 lo,.int .i64 hi] w fun e w'=>e=.returned (.bool (aN n lo hi))∧w=w':=by
 unfold aN;cases a1:decide (lo≤n)<;>cases a2:decide (n≤hi)
 all_goals
  go_enter Tryz.func174,Tryz.ntmps174;exact c_130
theorem aTg (c:Cm) (w:World):Calls Tryz.prog 121 #[c.agg] w fun e w'=>e=.returned (.bool (iA c))∧aA w w':=by
 obtain⟨cu,co,ca,cn⟩:=c;unfold Cm.agg iA;dsimp only;have K1:=uZ (fun W=>wT ca 1 1073741824 W);have K2:=uZ (fun W=>wT cn 1 9999 W);have K3:=uZ (fun W=>wT cu 1 1073741824 W);have K4:=uZ (fun W=>wT co 0 1073741824 W);generalize aN ca 1 1073741824=q1 at K1 ⊢;generalize aN cn 1 9999=q2 at K2 ⊢;generalize aN cu 1 1073741824=q3 at K3 ⊢;generalize aN co 0 1073741824=q4 at K4 ⊢;cases q1<;>cases q2<;>cases q3<;>cases q4<;>cases h1:(ca == 0)<;>cases h2:(cn == 0)
 all_goals
  go_enter Tryz.func121,Tryz.ntmps121;go_wp2_with (first|(go_at_call 174;(with_reducible first|refine(K1.out _).mono ?_|refine(K2.out _).mono ?_|refine(K3.out _).mono ?_|refine(K4.out _).mono ?_);rintro e w1 ⟨rfl,rfl⟩))
  go_ret;exact⟨rfl,((uX w).alloc _).alloc _⟩
theorem aLf (x c:Cm) (CB:Nat) (w:World) (h2:w.cell? ⟨CB,2,none⟩=some (.int .i64 c.acc)):Calls Tryz.prog 175 (#[x.agg] ++ #[.pointer (some ⟨CB,0,none⟩)]) w fun e w'=>e=.returned (.bool (x.acc == c.acc))∧aA w w':=by
 obtain⟨xu,xo,xa,xn⟩:=x;unfold Cm.agg;have h3:=uQ ((uX w).alloc (.cells #[.int .i64 xu,.int .i64 xo,.int .i64 xa,.int .i64 xn] 69)) h2;go_enter Tryz.func175,Tryz.ntmps175;exact c_127
theorem aVb (x c:Cm) (SB CB:Nat) (w:World) (h2:w.cell? ⟨CB,2,none⟩=some (.int .i64 c.acc)) (h3:w.cell? ⟨CB,3,none⟩=some (.int .i64 c.num)) (hs:w.cell? ⟨SB,0,none⟩=some (.func (.func 175) #[] #[.pointer (some ⟨CB,0,none⟩)])) :
  Calls Tryz.prog 177 (#[x.agg] ++ #[.pointer (some ⟨SB,0,none⟩),.pointer (some ⟨CB,0,none⟩)]) w fun e w'=>e=.returned (.bool (x.acc == c.acc && x.num == c.num))∧aA w w':=by
 have K:=uZ (fun W (hW:aA w W)=>aLf x c CB W (uQ hW h2));obtain⟨xu,xo,xa,xn⟩:=x;unfold Cm.agg at K ⊢;dsimp only at K ⊢;have g0:=(uX w).alloc (.cells #[.int .i64 xu,.int .i64 xo,.int .i64 xa,.int .i64 xn] 69);have s1:=uQ g0 hs;have HG0:=uZ g0;have H3:=uZ h3;cases hq:(xa == c.acc)<;>rw[hq] at K
 all_goals
  clear h2 h3 hs g0;go_enter Tryz.func177,Tryz.ntmps177;go_wp2_with fail;refine(K.out _ HG0.out).mono ?_;rintro e w1 ⟨rfl,g1⟩;have HG1:=uZ (HG0.out.trans g1);have x3:=yQ g1 3 _ rfl;have c3:=uQ HG1.out H3.out;clear g1 s1;dsimp only;go_wp2;go_ret;exact⟨rfl,HG1.out⟩
theorem aVa (x c:Cm) (SB CB:Nat) (w:World) (h2:w.cell? ⟨CB,2,none⟩=some (.int .i64 c.acc)) (h1:w.cell? ⟨CB,1,none⟩=some (.int .i64 c.office)) (hs:w.cell? ⟨SB,0,none⟩=some (.func (.func 175) #[] #[.pointer (some ⟨CB,0,none⟩)])) :
  Calls Tryz.prog 178 (#[x.agg] ++ #[.pointer (some ⟨SB,0,none⟩),.pointer (some ⟨CB,0,none⟩)]) w fun e w'=>e=.returned (.bool (x.acc == c.acc && x.office != c.office))∧aA w w':=by
 have K:=uZ (fun W (hW:aA w W)=>aLf x c CB W (uQ hW h2));obtain⟨xu,xo,xa,xn⟩:=x;unfold Cm.agg at K ⊢;dsimp only at K ⊢;have g0:=(uX w).alloc (.cells #[.int .i64 xu,.int .i64 xo,.int .i64 xa,.int .i64 xn] 69);have s1:=uQ g0 hs;have HG0:=uZ g0;have H1:=uZ h1;cases hq:(xa == c.acc)<;>rw[hq] at K
 all_goals
  clear h2 h1 hs g0;go_enter Tryz.func178,Tryz.ntmps178;go_wp2_with fail;refine(K.out _ HG0.out).mono ?_;rintro e w1 ⟨rfl,g1⟩;have HG1:=uZ (HG0.out.trans g1);have x1:=yQ g1 1 _ rfl;have c1:=uQ HG1.out H1.out;clear g1 s1;dsimp only;go_wp2;go_ret;exact⟨rfl,HG1.out⟩
theorem uE:∀ args w,(callFunc 177 args).run Tryz.prog w=.ok (.enter 177 args) w:=enters_of Tryz.func177 (by kernel_rfl) rfl
theorem uD:∀ args w,(callFunc 178 args).run Tryz.prog w=.ok (.enter 178 args) w:=enters_of Tryz.func178 (by kernel_rfl) rfl
theorem pM (l:List Cm) (p:Cm→Bool) (g:Nat) (lb:Array Value) (eg:∀ args w,(callFunc g args).run Tryz.prog w=.ok (.enter g args) w) (v:Value) (w:World) (hv:SlC w v l)
  (hp:∀ W x,aA w W→x∈l→Calls Tryz.prog g (#[x.agg]++lb) W fun e w'=>e=.returned (.bool (p x))∧aA W w') :
  Calls Tryz.prog 176 #[v,.func (.func g) #[] lb] w fun e w'=>e=.returned (.bool (l.any p))∧aA w w':=by
 have k:=vI l p g lb eg v w hv hp;have hany:=pD p l;generalize lL p l=i at k hany;have K:=uZ k;have HA:=uZ hany;clear k hp hv hany;go_enter Tryz.func176,Tryz.ntmps176;go_wp2_with (first|(go_at_call 61;refine K.out.mono ?_;rintro e w1 ⟨rfl,hg⟩))
 go_ret;exact⟨aV HA.out,hg⟩
theorem aTf (l:List Cm) (c:Cm) (lv:Value) (w:World) (hv:SlC w lv l):Calls Tryz.prog 124 #[lv,c.agg] w fun e w'=>e=.returned (.int .i64 (iW l c))∧aA w w':=by
 have kA:=fun(SB CB:Nat) W (hW:aA w W) (h:∀ W2,aA W W2→W2.cell? ⟨CB,2,none⟩=some (.int .i64 c.acc)∧W2.cell? ⟨CB,3,none⟩=some (.int .i64 c.num)∧W2.cell? ⟨SB,0,none⟩=some (.func (.func 175) #[] #[.pointer (some ⟨CB,0,none⟩)])) =>
  pM l (fun x=>x.acc == c.acc && x.num == c.num) _ #[.pointer (some ⟨SB,0,none⟩),.pointer (some ⟨CB,0,none⟩)] uE lv W (hv.mono hW) (fun W2 x hg _=>aVb x c SB CB W2 (h W2 hg).1 (h W2 hg).2.1 (h W2 hg).2.2)
 have kB:=fun(SB CB:Nat) W (hW:aA w W) (h:∀ W2,aA W W2→W2.cell? ⟨CB,2,none⟩=some (.int .i64 c.acc)∧W2.cell? ⟨CB,1,none⟩=some (.int .i64 c.office)∧W2.cell? ⟨SB,0,none⟩=some (.func (.func 175) #[] #[.pointer (some ⟨CB,0,none⟩)])) =>
  pM l (fun x=>x.acc == c.acc && x.office != c.office) _ #[.pointer (some ⟨SB,0,none⟩),.pointer (some ⟨CB,0,none⟩)] uD lv W (hv.mono hW) (fun W2 x hg _=>aVa x c SB CB W2 (h W2 hg).1 (h W2 hg).2.1 (h W2 hg).2.2)
 unfold iW;generalize (l.any fun x=>x.acc == c.acc && x.num == c.num)=qa at kA ⊢;generalize (l.any fun x=>x.acc == c.acc && x.office != c.office)=qb at kB ⊢;obtain⟨A,cc,rfl,-⟩:=hv.open_;obtain⟨cu,co,ca,cn⟩:=c;unfold Cm.agg;dsimp only at kA kB ⊢;have KA:=uZ kA;have KB:=uZ kB;clear kA kB hv;by_cases h0:ca=0
 ·have hb:(ca == 0)=true:=by simpa using h0
  rw[if_pos h0];clear h0;go_enter Tryz.func124,Tryz.ntmps124;exact c_127
 ·have hb:(ca == 0)=false:=by simpa using h0
  rw[if_neg h0];clear h0
  have HW:RowKit.Hid (∀ W,aA ((w.alloc (.cells #[.int .i64 cu,.int .i64 co,.int .i64 ca,.int .i64 cn] 69)).alloc (.cells #[.func (.func 175) #[] #[.pointer (some ⟨w.heap.size,0,none⟩)]] 96)) W→W.cell? ⟨w.heap.size,1,none⟩=some (.int .i64 co)∧W.cell? ⟨w.heap.size,2,none⟩=some (.int .i64 ca)∧W.cell? ⟨w.heap.size,3,none⟩=some (.int .i64 cn)∧W.cell? ⟨w.heap.size+1,0,none⟩=some (.func (.func 175) #[] #[.pointer (some ⟨w.heap.size,0,none⟩)])):=fun W hW=>by
   have g1:=((uX (w.alloc (.cells #[.int .i64 cu,.int .i64 co,.int .i64 ca,.int .i64 cn] 69))).alloc (.cells #[.func (.func 175) #[] #[.pointer (some ⟨w.heap.size,0,none⟩)]] 96)).trans hW;have hs:=yQ hW 0 _ rfl;rw[World.size_alloc] at hs;exact⟨yQ g1 1 _ rfl,yQ g1 2 _ rfl,yQ g1 3 _ rfl,hs⟩
  have hG1:aA w ((w.alloc (.cells #[.int .i64 cu,.int .i64 co,.int .i64 ca,.int .i64 cn] 69)).alloc (.cells #[.func (.func 175) #[] #[.pointer (some ⟨w.heap.size,0,none⟩)]] 96)):=((uX w).alloc _).alloc _;have HG1:=uZ hG1;clear hG1;have ka:=KA.out (w.heap.size+1) w.heap.size _ HG1.out (fun W hW=>⟨(HW.out W hW).2.1,(HW.out W hW).2.2.1,(HW.out W hW).2.2.2⟩);have KA1:=uZ ka;clear ka KA;have ho:(Value.func (.func 175) #[] #[.pointer (some ⟨w.heap.size,0,none⟩)]).oneCell'=true:=by simp[Value.oneCell']
  go_enter Tryz.func124,Tryz.ntmps124;go_wp2_with fail;refine KA1.out.mono ?_;rintro e w1 ⟨rfl,g1⟩;have kb:=KB.out (w.heap.size+1) w.heap.size w1 (HG1.out.trans g1) (fun W hW=>⟨(HW.out W (g1.trans hW)).2.1,(HW.out W (g1.trans hW)).1,(HW.out W (g1.trans hW)).2.2.2⟩);have KB1:=uZ kb;have HG2:=uZ (HG1.out.trans g1);clear kb KB g1 HW KA1 HG1 ho;dsimp only
  cases qa with
  | true =>
   go_wp2;go_ret;exact⟨rfl,HG2.out⟩
  | false =>
   go_wp2_with fail;refine KB1.out.mono ?_;rintro e w2 ⟨rfl,g2⟩;have HG3:=uZ (HG2.out.trans g2);clear g2;dsimp only;cases qb
   all_goals
    go_wp2;go_ret;exact⟨rfl,HG3.out⟩
theorem bEi (UB:Nat) (u:Int) (x:Cm) (w:World) (h:w.cell? ⟨UB,0,none⟩=some (.int .i64 u)):Calls Tryz.prog 62 (#[x.agg] ++ #[.pointer (some ⟨UB,0,none⟩)]) w fun e w'=>e=.returned (.bool (x.unit == u))∧aA w w':=by
 obtain⟨xu,xo,xa,xn⟩:=x;unfold Cm.agg;have h3:=uQ ((uX w).alloc (.cells #[.int .i64 xu,.int .i64 xo,.int .i64 xa,.int .i64 xn] 69)) h;go_enter Tryz.func62,Tryz.ntmps62;exact c_127
theorem aDn:∀ args w,(callFunc 62 args).run Tryz.prog w=.ok (.enter 62 args) w:=enters_of Tryz.func62 (by kernel_rfl) rfl
def cm0:Cm:=⟨0,0,0,0⟩
def aIu (R:Option Cm) (w:World) (e:Ending) (w':World):Prop:=e=.returned (.tuple #[.agg #[.int .i64 (R.getD cm0).office,.int .i64 (R.getD cm0).acc,.int .i64 (R.getD cm0).num],.bool R.isSome])∧aA w w'
theorem aZl (l:List Cm) (u:Int):(ofC l u=none∧lL (fun c=>c.unit == u) l=-1)∨∃ k,∃ h:k<l.length,ofC l u=some l[k]∧lL (fun c=>c.unit == u) l=(k:Int):=by
 by_cases h:l.any (fun c=>c.unit == u)=true
 ·obtain⟨m,hm,h1,h2⟩:=mD _ l h
  refine .inr ⟨m,hm,?_,eW _ l m hm h1 h2⟩;unfold ofC;rw[List.find?_eq_some_iff_getElem];exact⟨h1,m,hm,rfl,fun j hj=>by simpa using h2 j b_53 hj⟩
 ·simp only [Bool.not_eq_true] at h
  refine .inl ⟨?_,eA _ l fun i hi=>?_⟩
  ·unfold ofC
   rw[List.find?_eq_none];intro x hx;rw[List.any_eq_false] at h;exact h x hx
  ·rw[List.any_eq_false] at h
   simpa using h l[i] (List.getElem_mem hi)
theorem pOf (l:List Cm) (u:Int) (lv:Value) (w:World) (hv:SlC w lv l) (hlen:l.length≤1000000):Calls Tryz.prog 39 #[lv,.int .i64 u] w (aIu (ofC l u) w):=by
 have kI:=fun UB W (hW:aA w W) (h:∀ W2,aA W W2→W2.cell? ⟨UB,0,none⟩=some (.int .i64 u))=>vI l (fun c=>c.unit == u) _ #[.pointer (some ⟨UB,0,none⟩)] aDn lv W (hv.mono hW) (fun W2 x hg _=>bEi UB u x W2 (h W2 hg))
 have hcase:=aZl l u;obtain⟨A,c,rfl,hlc,hcap,hr⟩:=hv.open_;unfold maxLen at hcap;have HR:=uZ hr;have HU:=uZ (fun(W:World) (g:aA ((w.alloc (.cells #[.int .i64 u] 3)).alloc (.cells #[.int .i64 0,.int .i64 0,.int .i64 0] 24)) W)=>(show W.cell? ⟨w.heap.size,0,none⟩=some (.int .i64 u) from yQ (w:=w) (((uX _).alloc _).trans g) 0 _ rfl));have ka:=kI w.heap.size _ (((uX w).alloc (.cells #[.int .i64 u] 3)).alloc (.cells #[.int .i64 0,.int .i64 0,.int .i64 0] 24)) (fun W hW=>HU.out W hW);have HG0:=uZ (((uX w).alloc (.cells #[.int .i64 u] 3)).alloc (.cells #[.int .i64 0,.int .i64 0,.int .i64 0] 24))
 have HB:=uZ (fun(W:World) (g:aA ((w.alloc (.cells #[.int .i64 u] 3)).alloc (.cells #[.int .i64 0,.int .i64 0,.int .i64 0] 24)) W)=>(show W.heap[w.heap.size+1]? = some (.cells #[.int .i64 0,.int .i64 0,.int .i64 0] 24 (0,0)) from by
  have:=aD g (aO (w.alloc (.cells #[.int .i64 u] 3)) (.cells #[.int .i64 0,.int .i64 0,.int .i64 0] 24))
  rwa [World.size_alloc] at this))
 generalize lL (fun c=>c.unit == u) l=ix at ka hcase;have KA:=uZ ka;clear kI hr hv ka HU;rcases hcase with ⟨ho,rfl⟩|⟨k,hk,ho,rfl⟩
 ·rw[ho]
  clear ho;unfold aIu cm0;dsimp only [Option.getD_none,Option.isSome_none];go_enter Tryz.func39,Tryz.ntmps39;go_wp2_with fail;refine KA.out.mono ?_;rintro e w1 ⟨rfl,g1⟩;have hb:=HB.out w1 g1;have q0:=h_156;have q1:=h_157;have q2:=h_158;have z0:=aS (i:=0) hb;have z1:=aS (i:=1) hb;have z2:=aS (i:=2) hb;have HG1:=h_229;clear g1;have HB1:=uZ hb;dsimp only;have hs:=aXd hb (.int .i64 0) (.int .i64 0) (.int .i64 0);have r0:=aC (i:=0) (x:=.int .i64 0) hs rfl;have r1:=aC (i:=1) (x:=.int .i64 0) hs rfl;have r2:=aC (i:=2) (x:=.int .i64 0) hs rfl;clear hs hb;go_wp2;refine bodyPost_ret (v:=.tuple #[.agg #[.int .i64 0,.int .i64 0,.int .i64 0],.bool false]) (by simp[results,Tryz.results39,go_sem,r0,r1,r2]) rfl ⟨rfl,vL HG1.out (Nat.le_succ _) _ _ _⟩
 ·rw[ho]
  clear ho;have hkz:=h_208;obtain⟨b,off,rfl,hbb,hcell⟩:=HR.out b_53;have hck:=fun W hW=>hcell W hW k hk
  clear hcell;generalize l[k]=y at hck ⊢;obtain⟨yu,yo,ya,yn⟩:=y;have HCK:=uZ hck;clear hck;unfold aIu;dsimp only [Option.getD_some,Option.isSome_some];go_enter Tryz.func39,Tryz.ntmps39;go_wp2_with fail;refine KA.out.mono ?_;rintro e w1 ⟨rfl,g1⟩;have hb:=HB.out w1 g1;have q0:=h_156;have q1:=h_157;have q2:=h_158;have z0:=aS (i:=0) hb;have z1:=aS (i:=1) hb;have z2:=aS (i:=2) hb;have HG1:=h_229;obtain⟨c0,c1,c2,c3⟩:=HCK.out w1 HG1.out;clear g1;have HB1:=uZ hb;dsimp only;have hs:=aXd hb (.int .i64 yo) (.int .i64 ya) (.int .i64 yn);have r0:=aC (i:=0) (x:=.int .i64 yo) hs rfl;have r1:=aC (i:=1) (x:=.int .i64 ya) hs rfl;have r2:=aC (i:=2) (x:=.int .i64 yn) hs rfl;clear hs hb;go_wp2;refine bodyPost_ret (v:=.tuple #[.agg #[.int .i64 yo,.int .i64 ya,.int .i64 yn],.bool true]) (by simp[results,Tryz.results39,go_sem,r0,r1,r2]) rfl ⟨rfl,vL HG1.out (Nat.le_succ _) _ _ _⟩
theorem c_65 {p:Prop} (h:p:=by
 have HNO:RowKit.Hid (GG=false):=by
  show GG=false;rw[HST2.out,beq_eq_false_iff_ne.2 hc];simp
 have HNC:=uZ hc;clear hc;go_wp2;go_ret2;exact⟨_,_,rfl,by rw[HNO.out];simp[HNC.out],HG2.out⟩
):p:=h
theorem c_71 {p:Prop} (h:p:=by
 go_wp2;go_roundg (l.length-(kk+1))
 case measure=>omega
 case rel=>exact⟨kk+1,by omega,by omega,by go_num,(show Aside _ from HG2.out),(show Aside _ from HNX.out.trans HG2E.out)⟩
):p:=h
theorem h_218 {p:Prop} (h:p:=by
 exact(show((0:Int) != 0)=false from rfl)
):p:=h
theorem s_45 {p:Prop} (h:p:=by
 go_wp2_with fail;go_quiet (fail);go_wp2_with fail;have u0:=Gr.cell x0;have u1:=Gr.cell x1;have u2':=Gr.cell x2;have u3':=Gr.cell x3;refine dD w1 (by kernel_rfl) (by kernel_rfl) ((uX _).drewN _) ?_
 repeat (first|go_big_quiet_step ((with_reducible exact Gr.calls _ (HCL.out _ (HG1.out.trans (Gr.g _)))))|quiet_step ((with_reducible exact Gr.calls _ (HCL.out _ (HG1.out.trans (Gr.g _))))))
 refine wpQuiet_nil ?_;intro _ hw';obtain⟨wi,rfl⟩:=hw';have HG2:=uZ (HG1.out.trans wi.g);clear u0 u1 u2' u3' x0 x1 x2 x3;exact nX.g
):p:=h
def sN (l:List Cm):Bool:=decide (l.length≤256) && dZ [] l
def bBe (G:Bool) (w:World) (e:Ending) (w':World):Prop:=∃ i n,e=.returned (.tuple #[.int .i64 i,.int .i64 n])∧(n=0↔G=true)∧aA w w'
def zR (l:List Cm) (k:Nat) (y:Cm):Bool:=match (l.take k).getLast? with
 | none=>true
 | some p=>decide (p.unit<y.unit)
theorem aBy (l:List Cm) (k:Nat) (h:k<l.length):dZ (l.take k) (l.drop k)=(iA l[k] && (zR l k l[k] && (iW (l.take k) l[k] == 0 && dZ (l.take (k+1)) (l.drop (k+1))))):=by
 rw[List.drop_eq_getElem_cons h,dZ,List.take_succ_eq_append_getElem h];rfl
theorem aHe (l:List Cm) (y:Cm):zR l 0 y=true:=by simp[zR]
theorem aHf (l:List Cm) (k:Nat) (h:k<l.length) (y:Cm):zR l (k+1) y=decide (l[k].unit<y.unit):=by
 unfold zR;rw[List.take_succ_eq_append_getElem h,List.getLast?_append];simp
theorem aPm {W:World} {A:Option Addr} {n c k:Nat} {l:List Cm} (h:SlC W (.slice A n c) l) (hk:k≤n):SlC W (.slice A k c) (l.take k):=by
 have:=lU h hk;have hf:=(cT (f:=Cm.cells) (k:=4) (fun _=>rfl) l k).1;rw[hf] at this;exact this
def zHd:=Unit
theorem zHd.g {p:Prop} (_:zHd) (h:p:=by
 by_cases hc:cl=0
 ·subst hc
  have hb2:=h_218
  have HNX:RowKit.Hid (GG=G2):=by
   show GG=G2;rw[HST2.out];simp
  exact c_71
 ·have hb2:(cl != 0)=true:=by simpa using hc
  exact c_65
):p:=h
def zHe:=Unit
theorem zHe.g {p:Prop} (_:zHe) (h:p:=by
 by_cases hc:cl=0
 ·subst hc
  have hb2:=h_218
  have HNX:RowKit.Hid (GG=G2):=by
   show GG=G2;rw[HST2.out];simp[hst1]
  exact c_71
 ·have hb2:(cl != 0)=true:=by simpa using hc
  exact c_65
):p:=h
theorem aZi (l:List Cm) (lv:Value) (w:World) (hv:SlC w lv l):Calls Tryz.prog 173 #[lv] w (bBe (sN l) w):=by
 have kC:=fun k c W v (hW:aA w W) (h:SlC W v (l.take k))=>aTf (l.take k) c v W h
 have HS:=uZ (aBy l);have HP:=uZ (fun k (h:k<l.length) y=>aHf l k h y);have HT:=uZ (fun(A:Option Addr) c k W (h:SlC W (.slice A l.length c) l) (hk:k≤l.length)=>aPm h hk);obtain⟨i0,hi,-,-,-⟩:=info_parts aAu;have HV:=uZ hv;obtain⟨A,c,rfl,hlc,hcap,hr⟩:=hv.open_;unfold maxLen at hcap;have hpt:=fun k (hk:k≤l.length)=>lX (P:=Tryz.prog) Tryz.underlying50 hi A l.length c k hk hlc
 have HPT:=uZ hpt;have HR:=uZ hr;have KC:=uZ kC;unfold sN bBe;clear hv hr kC hpt hi;by_cases hbig:256<l.length
 ·rw[decide_eq_false b_53,Bool.false_and]
  have hb:(256:Int)<(l.length:Int):=by omega
  clear HS HP HT KC HPT;go_enter Tryz.func173,Tryz.ntmps173;go_wp2;go_ret2;exact⟨-1,8,rfl,by simp,uX w⟩
 rw[decide_eq_true b_53,Bool.true_and];have hb:=h_193;have hGG:dZ [] l=dZ (l.take 0) (l.drop 0):=by simp
 generalize dZ [] l=GG at hGG ⊢;have HG0:=uZ hGG;clear hGG;go_enter Tryz.func173,Tryz.ntmps173;go_wp2;go_loopg [12] l.length (fun gg s12 wr=>∃ kk:Nat,kk≤l.length∧l.length-kk≤gg∧s12=.int .i64 kk∧Aside (aA w wr)∧Aside (GG=dZ (l.take kk) (l.drop kk)))
 case atStart=>exact⟨0,by omega,by omega,rfl,(show Aside _ from uX w),HG0.out⟩
 case round =>
  obtain⟨kk,hkk,hgk,rfl,GW,GK⟩:=hrel;by_cases hlt:kk<l.length
  case neg =>
   have hltz:=h_197;have hG:=GK.out;rw[List.drop_of_length_le b_53,dZ] at hG;have HGG:=uZ hG;clear hG;go_wp2;go_ret2;exact⟨-1,0,rfl,by simp[HGG.out],GW.out⟩
  case pos =>
   have hltz:=h_201;have HST:=uZ (HS.out kk hlt);have HCL:=uZ (fun(W:World) (hW:aA w W)=>KC.out kk l[kk] W (.slice A kk c) hW (HT.out A c kk W (HV.out.mono hW) b_53));have hsl:=HPT.out kk b_53;obtain⟨b,off,rfl,hbb,hcell⟩:=HR.out b_53;obtain⟨c0,c1,c2,c3⟩:=hcell wr GW.out kk hlt
   have HPV:RowKit.Hid (∀ y:Cm,kk=0∧zR l kk y=true∨∃ z:Int,wr.cell? ⟨b,off+(kk-1)*4,none⟩=some (.int .i64 z)∧0<kk∧zR l kk y=decide (z<y.unit)):=fun y=>by
    cases kk with
    | zero=>exact .inl ⟨rfl,aHe l y⟩
    | succ k=>exact .inr ⟨l[k].unit,(hcell wr GW.out k b_53).1,by omega,HP.out k b_53 y⟩
   generalize l[kk]=y at c0 c1 c2 c3 HST HCL;have hpv:=HPV.out y;have HAL:=uZ (fun W=>aTg y W);have hst:=HST.out;rw[← GK.out] at hst;generalize zR l kk y=pb at hpv hst;generalize iA y=qa at HAL hst;generalize iW (l.take kk) y=cl at HCL hst;generalize hG2:dZ (l.take (kk+1)) (l.drop (kk+1))=G2 at hst;have HG2E:=uZ hG2.symm;clear hG2;have HST2:=uZ hst;clear hcell HPV HST GK hst;obtain⟨y0,y1,y2,y3⟩:=y;unfold Cm.agg at HAL HCL;dsimp only at HAL HCL c0 c1 c2 c3 hpv;go_wp2_with fail;refine(HAL.out _).mono ?_;rintro e w1 ⟨rfl,g1⟩;have x0:=yQ g1 0 _ rfl;have x1:=yQ g1 1 _ rfl;have x2:=yQ g1 2 _ rfl;have x3:=yQ g1 3 _ rfl;have HG1:=uZ ((GW.out.alloc (.cells #[.int .i64 y0,.int .i64 y1,.int .i64 y2,.int .i64 y3] 69)).trans g1);have hpv1:=fun z h=>uQ (((uX wr).alloc (.cells #[.int .i64 y0,.int .i64 y1,.int .i64 y2,.int .i64 y3] 69)).trans g1) (v:=.int .i64 z) (p:=⟨b,off+(kk-1)*4,none⟩) h
   clear g1 c0 c1 c2 c3;dsimp only
   cases qa with
   | false =>
    have HNO:RowKit.Hid (GG=false):=by
     show GG=false;rw[HST2.out];rfl
    clear hpv hpv1 x0 x1 x2 x3;go_wp2;go_ret2;exact⟨_,2,rfl,by simp[HNO.out],HG1.out⟩
   | true =>
    rcases hpv with ⟨hk0,hpb⟩|⟨z,hz,hpos,hpb⟩
    ·subst hpb
     have hposz:decide ((0:Int)<(kk:Int))=false:=by rw[decide_eq_false_iff_not];omega
     have hposn:decide (0<kk)=false:=by rw[decide_eq_false_iff_not];omega
     clear hpv1 hk0;have nX:zHd:=()
     exact s_45
    ·have d0:=hpv1 z hz
     have hposz:(0:Int)<(kk:Int):=by omega
     have hwr:IntKind.i64.wrap ((kk:Int)-1)=(kk:Int)-1:=IntWalk.i64_in _ b_53;clear hpv1 hz;by_cases hzy:y0≤z
     ·have HNO:RowKit.Hid (GG=false):=by
       show GG=false;rw[HST2.out,hpb,decide_eq_false b_53];rfl
      clear hpb;go_wp2_with fail;go_quiet (fail);go_wp2;go_ret2;exact⟨_,5,rfl,by simp[HNO.out],HG1.out.drewN _⟩
     ·have hzy':decide (y0≤z)=false:=by simpa using hzy
      have hst1:pb=true:=by rw[hpb];simpa using hzy
      clear hpb hzy;have nX:zHe:=()
      exact s_45
theorem aZh (l:List Cm) (lv:Value) (w:World) (hv:SlC w lv l):Calls Tryz.prog 120 #[lv] w fun e w'=>e=.returned (.bool (sN l))∧aA w w':=by
 have k:=aZi l lv w hv;generalize sN l=G at k ⊢;have K:=uZ k;clear k hv;go_enter Tryz.func120,Tryz.ntmps120;go_wp2_with fail;refine K.out.mono ?_;rintro e w1 ⟨i,n,rfl,hn,g⟩;have HN:=uZ hn;clear hn;dsimp only;cases hb:(n == 0)
 ·have HGF:RowKit.Hid (G=false):=by
   show G=false;have:¬ n=0:=by simpa using hb
   cases G
   ·rfl
   ·exact absurd (HN.out.2 rfl) this
  go_wp2;go_ret;exact⟨aV HGF.out.symm,g⟩
 ·have HGF:RowKit.Hid (G=true):=HN.out.1 (by simpa using hb)
  go_wp2;go_ret;exact⟨aV HGF.out.symm,g⟩
theorem c_45 {p:Prop} (h:p:=by
 go_enter Tryz.func125,Tryz.ntmps125;go_wp2_with (at_builtin;refine wpList_append_lies _ rfl _ _ 50 rfl w0.heap.size 69 i0 (.agg #[.int .i64 0,.int .i64 0,.int .i64 0,.int .i64 0]) 4 32 Tryz.underlying50 hi hz0 hz1 hz2 rfl b_53 _ _ _ b_55 HO.out ⟨vb,0,none⟩ 1 1 xc b_55 HX.out (fun j u hj=>by rw[bT];exact HV.out j u hj) H1.out b_53 b_47 b_53 hG.size w.heap.size rfl ?_;intro g3 cap3 w3 hown3 hgr3 hat3 hlt3)
 exact e_19
):p:=h
theorem bCi (w:World):(Go.sizeOf 69).run Tryz.prog w=.ok 4 w:=by kernel_rfl
theorem xO:(Tryz.prog.info? 69).map (·.size)=some 4:=by kernel_rfl
theorem aLl (w:World) (g vb o:Nat) (hne:vb≠g) (cur xc:List Value) (hg:w.heap[g]? = some (.cells cur.toArray 69 (0,0))) (hv:w.heap[vb]? = some (.cells xc.toArray 69 (0,0))) (hpos:0<cur.length) (lb cb:Nat) :
  (callFunc 179 #[.slice (some ⟨vb,0,none⟩) 1 1,.slice (some ⟨g,o,none⟩) lb cb]).run Tryz.prog w=.ok (.value (.bool false)) w:=by
 rw[run_callFunc_extern Tryz.func179 (by kernel_rfl) (by kernel_rfl) (by kernel_rfl) (e:=Extern.SlicesOverlaps.overlaps #[50,50] #[4]) (by kernel_rfl),
  Lib.run_overlaps_apart w 50 4 69 Tryz.underlying50 4 bCi ⟨vb,0,none⟩ ⟨g,o,none⟩ 1 1 lb cb hne 69 69 xc.toArray.size cur.toArray.size (by simp[World.shape?,hv]) (by simp[World.shape?,hg]) (by simp only [List.size_toArray];omega) b_43 b_43]
 rfl
def zHj:=Unit
theorem zHj.g {p:Prop} (_:zHj) (h:p:=by
 refine wpStill_nil ?_;refine aIi rfl _ _ 50 50 rfl 69 Tryz.underlying50 4 xO g ((i+1)*4) (n-i) (cap-(i+1)) ⟨g,i*4,none⟩ (n+1-i) (cap-i) b_55 b_55 cur 69 (by have:=HG0.out;exact this) q ?_ ?_ ?_ ?_ w0 (by exact hG.drew) hbg ?_
 ·rw[HPQ.out.2.1]
  exact c_125
 ·intro j v hj
  rw[bT];refine dV HG0.out (i*4+j) v ?_;exact c_78
 ·have h1:=HPQ.out
  rw[HC.out];simp only [List.length_append];omega
 ·exact fun v hv=>H1.out.1 v hv
 intro w1 HG1 HW1 HK1;have hvb1:w1.heap[vb]? = some (.cells xc.toArray 69 (0,0)):=(HK1.out vb hne).trans HV.out
 obtain⟨w2,hrun,hg2,hG2,hk2⟩:=nI (P:=Tryz.prog) w1 50 50 69 Tryz.underlying50 4 xO g (i*4) (n+1-i) (cap-i) ⟨vb,0,none⟩ 1 1 _ 69 HG1.out xc (by
   rw[HPQ.out.2.2.2];have:Nat.min 1 (n+1-i)=1:=by simp only [Nat.min_def];split<;>omega
   rw[this]) (fun j v hj=>by rw[bT,Nat.zero_add];exact dV hvb1 j v hj) (by
   have h1:=HPQ.out;rw[length_splice _ _ _ b_29,HC.out];simp only [List.length_append]
   omega) H1.out.2 w0 HW1.out hbg
 have HFin:RowKit.Hid (w2.ownsRow w0.heap.size 69 4 (.slice (some ⟨g,0,none⟩) (n+1) cap) (n+1) (p++xc++q)):=by
  have h1:=HPQ.out;have hs:=lP p q r xc b_53;rw[h1.1,h1.2.2.2,← HC.out,show i*4+4=(i+1)*4 by omega] at hs;exact c_51
 exact c_90
):p:=h
theorem aMk (w0:World) (g cap n i vb:Nat) (cur p q r xc:List Value) (w:World) (hi:i<n) (hroom:n+1≤cap) (hc:cap≤maxLen) (hne:vb≠g) (hG:aA w0 w) (hbg:w0.heap.size≤g)
  (hg:w.heap[g]? = some (.cells cur.toArray 69 (0,0))) (hcur:cur=p++q++r) (hp:p.length=i*4) (hq:q.length=(n-i)*4) (hr:4≤r.length) (hcl:cur.length=cap*4)
  (hv:w.heap[vb]? = some (.cells xc.toArray 69 (0,0))) (hx:xc.length=4) (h1c:∀ v∈q,v.oneCell'=true) (h1x:∀ v∈xc,v.oneCell'=true) :
  Calls Tryz.prog 125 #[.slice (some ⟨g,0,none⟩) n cap,.int .i64 i,.slice (some ⟨vb,0,none⟩) 1 1] w (iF 69 4 (p++xc++q) (n+1) w0.heap.size (.slice (some ⟨g,0,none⟩) n cap) w):=by
 have hlen:cur.length=i*4+(n-i)*4+r.length:=by rw[hcur];simp only [List.length_append,hp,hq]
 unfold maxLen at hc;have hov:=fun lb cb=>aLl w g vb ((i+1)*4) hne cur xc hg hv b_53 lb cb
 have hz1:=h_209;have hb2:¬ (cap=i+1):=by omega
 have hb3:=h_210;have hb4:=h_224;have hin:i≤n:=by omega
 have HG0:=uZ hg;have HV:=uZ hv;have HC:=uZ hcur;have HPQ:=uZ (show p.length=i*4∧q.length=(n-i)*4∧4≤r.length∧xc.length=4 from⟨hp,hq,hr,hx⟩);have H1:=h_134;have HCL:=uZ hcl;clear hg hv hcur hp hq hr hx h1c h1x hlen hcl;go_enter Tryz.func125,Tryz.ntmps125;have nX:zHj:=()
 exact s_47
theorem aXl (w:World) (g cap n i:Nat) (cur p q:List Value) (hi:i<n) (hnc:n≤cap) (hroom:cap<n+1) (hn:n≤1000000) (hg:w.heap[g]? = some (.cells cur.toArray 69 (0,0))) (hcur:∃ r,cur=p++q++r) (hp:p.length=i*4) :
  ∃(G:Nat) (Z:List Value) (w1:World),(∀ ty,(Builtin.append_ #[50,3] ty #[.slice (some ⟨g,0,none⟩) i cap,.int .i64 ((n:Int)+1-(i:Int))]).run Tryz.prog w=.ok (.slice (some ⟨w.heap.size,0,none⟩) (n+1) G) w1) ∧
   n+1≤G∧G≤maxLen∧w1.heap[w.heap.size]? = some (.cells (p++Z).toArray 69 (0,0))∧(n+1-i)*4≤Z.length∧i*4+Z.length=G*4∧aA w w1:=by
 obtain⟨i0,hi0,hz0,hz1,hz2⟩:=info_parts aAu;obtain⟨r,hcur⟩:=hcur;have hkk:=h_163;have hik:i+(n+1-i)=n+1:=by omega
 have hold:(Builtin.firstCells i0.size i (.slice (some ⟨g,0,none⟩) i cap)).run Tryz.prog w.drew=.ok p.toArray w.drew:=by
  rw[hz1];refine run_firstCells_some w.drew 4 i ⟨g,0,none⟩ i cap p hp (fun j v hj=>?_);rw[bT,Nat.zero_add];refine dV (w:=w.drew) hg j v ?_;rw[hcur,List.append_assoc,List.getElem?_append_left (List.getElem?_eq_some_iff.1 hj).1];exact hj
 have h:=fun ty=>Lib.run_append_grow_zeros w 50 3 ty 69 i0 _ .i64 .i64 Tryz.underlying50 Tryz.underlying3 hi0 hz0 (some ⟨g,0,none⟩) i cap p hold (n+1-i) b_53 b_53 b_53 b_53 (by rw[hz2];omega) (by rw[hz2,hik];exact growslice_fits hroom b_53)
 simp only [hik] at h;rw[hkk];obtain⟨ZC,hZC⟩:∃ ZC,ZC=(Value.agg #[.int .i64 0,.int .i64 0,.int .i64 0,.int .i64 0]).cells:=⟨_,rfl⟩
 have hZs:ZC.size=4:=by rw[hZC];rfl
 rw[← hZC] at h;refine⟨_,(Builtin.zeroCells ZC (n+1-i)++Builtin.zeroCells ZC (grownCap w (n+1) cap 69-(n+1))).toList,_,h,grownCap_ge w _ _ _,grownCap_le_maxLen w (n+1) cap _ b_47,?_,?_,?_,(uX w).drew.alloc _⟩
 ·have:=heap_alloc_last w.drew (.cells (p.toArray++Builtin.zeroCells ZC (n+1-i)++Builtin.zeroCells ZC (grownCap w (n+1) cap 69-(n+1))) 69 (0,0))
  rw[show(p++(Builtin.zeroCells ZC (n+1-i)++Builtin.zeroCells ZC (grownCap w (n+1) cap 69-(n+1))).toList).toArray=p.toArray++Builtin.zeroCells ZC (n+1-i)++Builtin.zeroCells ZC (grownCap w (n+1) cap 69-(n+1)) by simp[Array.append_assoc]];exact this
 ·simp[Builtin.zeroCells,hZs]
 ·have h9:=grownCap_ge w (n+1) cap 69
  simp only [Builtin.zeroCells,hZs,Array.toList_append,List.length_append,Array.length_toList,Array.size_map,Array.size_range];rw[← Nat.add_assoc,← Nat.add_mul,← Nat.add_mul];generalize grownCap w (n+1) cap 69=X at h9 ⊢;rw[show i+(n+1-i)+(X-(n+1))=X by omega]
def zFz:=Unit
theorem zFz.g {p:Prop} (_:zFz) (h:p:=by
 refine wpStill_nil ?_;refine aIi rfl _ _ 50 50 rfl 69 Tryz.underlying50 4 xO H ((i+1)*4) (n-i) (G-(i+1)) ⟨g,i*4,none⟩ (n-i) (cap-i) b_55 b_55 _ 69 (by have:=HR2.out.1;exact this) q ?_ ?_ ?_ ?_ w (by exact HR2.out.2.2.drew) (by rw[HH.out];exact Nat.le_refl _) ?_
 ·rw[HPQ.out.2.1]
  exact c_125
 ·intro j v hj
  rw[bT];refine dV (w:=w2.drew) HR2.out.2.1 (i*4+j) v ?_;exact c_78
 ·have h1:=HPQ.out
  exact c_111
 ·exact fun v hv=>H1.out.1 v hv
 intro w3 HG3 HW3 HK3
 have HFin:RowKit.Hid (w3.ownsRow w0.heap.size 69 4 (.slice (some ⟨H,0,none⟩) (n+1) G) (n+1) (p++xc++q)):=by
  have h1:=HPQ.out;have hs:=pV p q Z xc;rw[h1.1,h1.2.2.1,show i*4+4=(i+1)*4 by omega] at hs;exact c_50
 exact c_100
):p:=h
def zH0:=Unit
theorem zH0.g {p:Prop} (_:zH0) (h:p:=by
 have HPQ:=uZ (show p.length=i*4∧q.length=(n-i)*4∧xc.length=4∧(n+1-i)*4≤Z.length∧i*4+Z.length=G*4 from⟨hp,hq,hx,hZ,hZl⟩);have H1:=h_134;clear hg hv hcur hp hq hx h1c h1x hh1 hZ hZl hgr1 hv1 hg1 hmin hh2 hgr2 hk2 hg2 hglt hvlt;obtain⟨H,hH⟩:∃ H,H=w.heap.size:=⟨_,rfl⟩
 rw[← hH] at HR2 hrun1 hrun2;have HH:=uZ hH;clear hH;go_enter Tryz.func125,Tryz.ntmps125;have nX:zFz:=()
 exact s_28
):p:=h
theorem aRd (w0:World) (g cap n i vb:Nat) (cur p q r xc:List Value) (w:World) (hi:i<n) (hnc:n≤cap) (hroom:cap<n+1) (hn:n≤1000000) (hG:aA w0 w)
  (hg:w.heap[g]? = some (.cells cur.toArray 69 (0,0))) (hcur:cur=p++q++r) (hp:p.length=i*4) (hq:q.length=(n-i)*4)
  (hv:w.heap[vb]? = some (.cells xc.toArray 69 (0,0))) (hx:xc.length=4) (h1c:∀ v∈q,v.oneCell'=true) (h1x:∀ v∈xc,v.oneCell'=true) :
  Calls Tryz.prog 125 #[.slice (some ⟨g,0,none⟩) n cap,.int .i64 i,.slice (some ⟨vb,0,none⟩) 1 1] w (iF 69 4 (p++xc++q) (n+1) w0.heap.size (.slice (some ⟨g,0,none⟩) n cap) w):=by
 obtain⟨G,Z,w1,hrun1,hG1,hG2,hh1,hZ,hZl,hgr1⟩:=aXl w g cap n i cur p q hi hnc hroom hn hg ⟨r,hcur⟩ hp;unfold maxLen at hG2;have hglt:=h_184;have hvlt:=h_179;have hv1:w1.heap[vb]? = some (.cells xc.toArray 69 (0,0)):=(hgr1.block vb hvlt).trans hv;have hg1:w1.heap[g]? = some (.cells cur.toArray 69 (0,0)):=(hgr1.block g hglt).trans hg;have hmin:=h_152;obtain⟨w2,hrun2,hh2,hgr2,hk2⟩:=nI (P:=Tryz.prog) w1 50 50 69 Tryz.underlying50 4 xO w.heap.size (i*4) (n+1-i) (G-i) ⟨vb,0,none⟩ 1 1 _ 69 hh1 xc (by rw[hx,hmin]) (fun j v hj=>by rw[bT,Nat.zero_add];exact dV hv1 j v hj) (by rw[List.length_append,hp,hx];omega) h1x w hgr1 (Nat.le_refl _);have hg2:w2.heap[g]? = some (.cells cur.toArray 69 (0,0)):=(hk2 g b_53).trans hg1;have nX:zH0:=()
 exact s_50
theorem aVu (w0:World) (n vb:Nat) (xs xc:List Value) (v:Value) (w:World) (hown:w.ownsRow w0.heap.size 69 4 v n xs) (hG:aA w0 w) (hl:n≤1000000)
  (hv:w.heap[vb]? = some (.cells xc.toArray 69 (0,0))) (hx:xc.length=4) (h1x:∀ v∈xc,v.oneCell'=true) :
  Calls Tryz.prog 125 #[v,.int .i64 n,.slice (some ⟨vb,0,none⟩) 1 1] w (iF 69 4 (xs++xc) (n+1) w0.heap.size v w):=by
 obtain⟨i0,hi,hz0,hz1,hz2⟩:=info_parts aAu;have HO:=uZ hown;have HV:=h_124;have HX:=uZ (show xc.length=1*4 from hx);have H1:=uZ h1x;have hf:=h_77;obtain⟨A,c,rfl,hnc,hc,hA⟩:=hf;unfold maxLen at hc;clear hown hv hx h1x
 cases A with
 | none =>
  obtain⟨rfl,rfl⟩:=hA rfl;clear hA;exact c_45
 | some a =>
  clear hA;by_cases hcn:c=n
  ·subst hcn
   exact c_45
  ·go_enter Tryz.func125,Tryz.ntmps125
   go_wp2_with (at_builtin;refine wpList_append_lies _ rfl _ _ 50 rfl w0.heap.size 69 i0 (.agg #[.int .i64 0,.int .i64 0,.int .i64 0,.int .i64 0]) 4 32 Tryz.underlying50 hi hz0 hz1 hz2 rfl b_53 _ _ _ b_55 HO.out ⟨vb,0,none⟩ 1 1 xc b_55 HX.out (fun j u hj=>by rw[bT];exact HV.out j u hj) H1.out b_53 b_47 b_53 hG.size w.heap.size rfl ?_;intro g3 cap3 w3 hown3 hgr3 hat3 hlt3)
   exact c_102
theorem aVr (w0:World) (l:List Cm) (x:Cm) (i vb:Nat) (v:Value) (w:World) (hown:w.ownsRow w0.heap.size 69 4 v l.length (l.flatMap Cm.cells)) (hG:aA w0 w) (hi:i≤l.length) (hl:l.length≤1000000)
  (hv:w.heap[vb]? = some (.cells x.cells.toArray 69 (0,0))) (hne:some vb≠v.ownBlock) :
  Calls Tryz.prog 125 #[v,.int .i64 i,.slice (some ⟨vb,0,none⟩) 1 1] w (iF 69 4 ((l.take i++[x]++l.drop i).flatMap Cm.cells) (l.length+1) w0.heap.size v w):=by
 have hx1:∀ v∈x.cells,v.oneCell'=true:=fun v hv=>eJ [x] v (by simpa using hv)
 have hxl:x.cells.length=4:=rfl;obtain⟨ht,hd⟩:=cT (f:=Cm.cells) (k:=4) (fun _=>rfl) l i;have hfl:=aL Cm.cells 4 (fun _=>rfl) l;by_cases e:i=l.length
 ·subst e
  have:=aVu w0 l.length vb (l.flatMap Cm.cells) x.cells v w hown hG hl hv hxl hx1;simpa [List.flatMap_append] using this
 ·rcases hown.2 with ⟨_,h0⟩|⟨g,cap,cur,rfl,hbg,hh,h1,h2,h3,h4⟩
  ·omega
  have hres:(l.take i++[x]++l.drop i).flatMap Cm.cells=(l.flatMap Cm.cells).take (i*4)++x.cells++(l.flatMap Cm.cells).drop (i*4):=by
   rw[ht,hd];simp[List.flatMap_append]
  have hcur:cur.toList=(l.flatMap Cm.cells).take (i*4)++(l.flatMap Cm.cells).drop (i*4)++cur.toList.drop (l.length*4):=by
   rw[List.take_append_drop,← h4,List.take_append_drop]
  have hh':w.heap[g]? = some (.cells cur.toList.toArray 69 (0,0)):=by simpa using hh
  have hp:((l.flatMap Cm.cells).take (i*4)).length=i*4:=by rw[List.length_take,hfl];omega
  have hq:((l.flatMap Cm.cells).drop (i*4)).length=(l.length-i)*4:=by rw[List.length_drop,hfl];omega
  have hne':vb≠g:=fun h=>hne (by rw[h];rfl)
  have hq1:∀ v∈(l.flatMap Cm.cells).drop (i*4),v.oneCell'=true:=fun v hv=>eJ l v (List.mem_of_mem_drop hv)
  rw[hres];by_cases hroom:l.length+1≤cap
  ·exact aMk w0 g cap l.length i vb _ _ _ _ _ w b_53 hroom h2 hne' hG hbg hh' hcur hp hq (by rw[List.length_drop,Array.length_toList,h3];omega) (by simpa using h3) hv hxl hq1 hx1
  ·exact aRd w0 g cap l.length i vb _ _ _ _ _ w b_53 h1 b_53 hl hG hh' hcur hp hq hv hxl hq1 hx1
end Go.Proofs.YtdochkemaiokfaaGreat


