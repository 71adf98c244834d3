/- Lemmas on what the functions of the program and of the library compute: PlainH, T10, PlainK, PlainM, T5X. The conditions stand at each. -/
import Derived.Test.YtdochkemaiokfaaGreatQ1
import Derived.Test.YtdochkemaiokfaaGreatQ2
import Derived.Shelf.Small.Bits
import Derived.Shelf.Small.Strs
import Derived.Shelf.Small.Wraps
import Derived.Shelf.Strings.Search3
import Derived.Shelf.LaysM
import Derived.Shelf.Strings.Shaped
import Derived.Shelf.Sort.Plain
import Derived.Shelf.Slices.Reverse
import Derived.Shelf.Slices.In.SortNone
import Derived.Test.YtdochkemaiokfaaGreatProg
import Derived.Test.YtdochkemaiokfaaGreatQ4
import Derived.Test.YtdochkemaiokfaaGreatQ3
/- Ascending lists of numbers, and the holders of a role, plainly. No condition. -/
namespace Go.Proofs.YtdochkemaiokfaaGreat
open Go.RowKit
def Asc (l:List Int):Prop:=l.Pairwise (· < ·)
theorem asc_ext:∀ {l m:List Int},Asc l→Asc m→(∀ x,x∈l↔x∈m)→l=m
 | [],[],_,_,_=>rfl
 | [],y::m,_,_,h=>by have:=(h y).2 (by simp);simp at this
 | x::l,[],_,_,h=>by have:=(h x).1 (by simp);simp at this
 | x::l,y::m,hl,hm,h=>by
  have hl':=List.pairwise_cons.1 hl
  have hm':=List.pairwise_cons.1 hm
  have hxy:x=y:=by
   have h1:=(h x).1 (by simp)
   have h2:=(h y).2 (by simp)
   rcases List.mem_cons.1 h1 with e|h1
   ·exact e
   ·rcases List.mem_cons.1 h2 with e|h2
    ·exact e.symm
    ·have a:=hm'.1 x h1
     have b:=hl'.1 y h2
     omega
  subst hxy
  rw[asc_ext hl'.2 hm'.2 (fun z=>?_)]
  constructor
  ·intro hz
   have h1:=(h z).1 (by simp[hz])
   rcases List.mem_cons.1 h1 with e|h1
   ·subst e
    have:=hl'.1 z hz
    omega
   ·exact h1
  ·intro hz
   have h1:=(h z).2 (by simp[hz])
   rcases List.mem_cons.1 h1 with e|h1
   ·subst e
    have:=hm'.1 z hz
    omega
   ·exact h1
theorem sortI_asc (l:List Int) (h:l.Nodup):Asc (sortI l):=by
 have h1:(sortI l).Pairwise fun a b=>decide (a≤b)=true:=List.pairwise_mergeSort (fun a b c=>by simp;omega) (fun a b=>by simp;omega) l
 have h2:(sortI l).Nodup:=(List.mergeSort_perm l _).nodup_iff.2 h
 refine List.Pairwise.imp₂ (R:=fun a b=>decide (a≤b)=true) (S:=(· ≠ ·)) (fun a b k1 k2=>?_) h1 h2
 simp at k1
 omega
theorem mem_sortI (l:List Int) (x:Int):x∈sortI l↔x∈l:=(List.mergeSort_perm l _).mem_iff
end Go.Proofs.YtdochkemaiokfaaGreat
/- tree.path on a right tree: its plain form. No condition. -/
namespace Go.Proofs.YtdochkemaiokfaaGreat
open Go.RowKit
def upIds (l:List Br):Nat→Br→List Int
 | 0,b=>[b.id]
 | n+1,b=>if b.parent=0 then[b.id] else match brFind l b.parent with
  | none=>[b.id]
  | some p=>b.id::upIds l n p
theorem upIds_top (l:List Br) (n:Nat) (b:Br) (h:b.parent=0):upIds l n b=[b.id]:=by cases n<;>simp[upIds,h]
theorem upIds_up (l:List Br) (n:Nat) (b p:Br) (h:b.parent≠0) (hp:brFind l b.parent=some p):upIds l (n+1) b=b.id::upIds l n p:=by simp[upIds,h,hp]
end Go.Proofs.YtdochkemaiokfaaGreat
/- The children of a unit as the reference asks for them, plainly: the same as the sorted list. No condition. -/
namespace Go.Proofs.YtdochkemaiokfaaGreat
open Go.RowKit
theorem asc_sub_len:∀ {a b:List Int},Asc a→Asc b→(∀ x∈a,x∈b)→a.length≤b.length
 | [],_,_,_,_=>Nat.zero_le _
 | x::a,[],_,_,h=>by have:=h x (by simp);cases this
 | x::a,y::b,ha,hb,h=>by
  have ha':=List.pairwise_cons.1 ha
  have hb':=List.pairwise_cons.1 hb
  have hxy:y≤x:=by
   rcases List.mem_cons.1 (h x (by simp)) with e|hx
   ·omega
   ·have:=hb'.1 x hx;omega
  have:=asc_sub_len (a:=a) (b:=b) ha'.2 hb'.2 (fun z hz=>by
   have h1:=ha'.1 z hz
   rcases List.mem_cons.1 (h z (List.mem_cons_of_mem _ hz)) with e|hz2
   ·omega
   ·exact hz2)
  simp only [List.length_cons]
  omega
def idsAsc (l:List Br):Prop:=l.Pairwise fun a b=>a.id<b.id
theorem find_byid {l:List Br} (h:idsAsc l) {b:Br} (hb:b∈l):brFind l b.id=some b:=by
 obtain⟨k,hk,rfl⟩:=List.mem_iff_getElem.1 hb
 unfold brFind
 refine List.find?_eq_some_iff_getElem.2 ⟨by simp,k,hk,rfl,fun j hj=>?_⟩
 have:=List.pairwise_iff_getElem.1 h j k (by omega) hk hj
 simp
 omega
theorem find_in {l:List Br} {n:Int} {b:Br} (h:brFind l n=some b):b∈l∧b.id=n:=by
 unfold brFind at h
 exact⟨List.mem_of_find?_eq_some h,by simpa using List.find?_some h⟩
theorem kidsOf_asc {l:List Br} (h:idsAsc l) (p:Int):Asc (kidsOf l p):=by
 unfold kidsOf Asc
 exact List.Pairwise.map _ (fun _ _ h=>h) (List.Pairwise.filter _ h)
theorem mem_kidsOf (l:List Br) (p n:Int):n∈kidsOf l p↔∃ b∈l,b.parent=p∧b.id=n:=by
 unfold kidsOf
 simp only [List.mem_map,List.mem_filter,beq_iff_eq]
 exact⟨fun⟨b,⟨h1,h2⟩,h3⟩=>⟨b,h1,h2,h3⟩,fun⟨b,h1,h2,h3⟩=>⟨b,⟨h1,h2⟩,h3⟩⟩
theorem deep_mono {l:List Br}:∀(n:Nat) (b:Br) (d:Nat),deep l n b=some d→d≤n+1∧∀ m,d≤m+1→deep l m b=some d
 | 0,b,d,h=>by
  unfold deep at h
  by_cases hp:b.parent=0
  ·rw[if_pos hp] at h
   cases h
   refine⟨by omega,fun m _=>?_⟩
   cases m<;>simp[deep,hp]
  ·rw[if_neg hp] at h;cases h
 | n+1,b,d,h=>by
  unfold deep at h
  by_cases hp:b.parent=0
  ·rw[if_pos hp] at h
   cases h
   refine⟨by omega,fun m _=>?_⟩
   cases m<;>simp[deep,hp]
  ·rw[if_neg hp] at h
   cases hf:brFind l b.parent with
   | none=>rw[hf] at h;cases h
   | some p =>
    rw[hf] at h
    simp only [Option.map_eq_some_iff] at h
    obtain⟨e,he,rfl⟩:=h
    obtain⟨h1,h2⟩:=deep_mono n p e he
    refine⟨by omega,fun m hm=>?_⟩
    obtain⟨m',rfl⟩:∃ m',m=m'+1:=by
     cases m with
     | zero =>
      exfalso
      have:1≤e:=by
       cases n with
       | zero=>unfold deep at he;split at he<;>simp at he;omega
       | succ n => unfold deep at he; split at he
                   · simp at he; omega
                   · cases hf2 : brFind l p.parent with
                     | none => rw [hf2] at he; cases he
                     | some q => rw [hf2] at he; simp only [Option.map_eq_some_iff] at he; obtain ⟨_, _, rfl⟩ := he; omega
      omega
     | succ m'=>exact⟨m',rfl⟩
    unfold deep
    rw[if_neg hp,hf]
    show(deep l m' p).map (· + 1)=_
    rw[h2 m' (by omega)]
    rfl
def upOk (l:List Br):Prop:=∀ b∈l,b.parent=0∨∃ p,brFind l b.parent=some p
theorem up_deep_len {l:List Br}:∀(n:Nat) (b:Br) (d:Nat),deep l n b=some d→(upIds l n b).length=d
 | 0,b,d,h=>by
  unfold deep at h
  by_cases hp:b.parent=0
  ·rw[if_pos hp] at h;cases h;simp[upIds]
  ·rw[if_neg hp] at h;cases h
 | n+1,b,d,h=>by
  unfold deep at h
  by_cases hp:b.parent=0
  ·rw[if_pos hp] at h;cases h;simp[upIds,hp]
  ·rw[if_neg hp] at h
   cases hf:brFind l b.parent with
   | none=>rw[hf] at h;cases h
   | some p =>
    rw[hf] at h
    simp only [Option.map_eq_some_iff] at h
    obtain⟨e,he,rfl⟩:=h
    rw[upIds_up l n b p hp hf,List.length_cons,up_deep_len n p e he]
theorem up_below {l:List Br} (hi:idsAsc l):∀(n:Nat) (b:Br) (d:Nat),b∈l→deep l n b=some d→(upIds l n b).Nodup∧∀ x∈upIds l n b,∃ c∈l,c.id=x∧∃ e,e≤d∧deep l n c=some e
 | 0,b,d,hb,h=>by
  refine⟨by simp[upIds],fun x hx=>?_⟩
  simp only [upIds,List.mem_singleton] at hx
  exact⟨b,hb,hx.symm,d,Nat.le_refl _,h⟩
 | n+1,b,d,hb,h=>by
  have h0:=h
  unfold deep at h
  by_cases hp:b.parent=0
  ·rw[upIds_top l _ b hp]
   refine⟨by simp,fun x hx=>?_⟩
   rw[List.mem_singleton] at hx
   exact⟨b,hb,hx.symm,d,Nat.le_refl _,h0⟩
  ·rw[if_neg hp] at h
   cases hf:brFind l b.parent with
   | none=>rw[hf] at h;cases h
   | some p =>
    rw[hf] at h
    simp only [Option.map_eq_some_iff] at h
    obtain⟨e,he,rfl⟩:=h
    obtain⟨h1,h2⟩:=up_below hi n p e (find_in hf).1 he
    rw[upIds_up l n b p hp hf]
    refine⟨List.nodup_cons.2 ⟨fun hx=>?_,h1⟩,fun x hx=>?_⟩
    ·obtain⟨c,hc,hci,e',hle,hd⟩:=h2 _ hx
     have hcb:c=b:=by
      have a1:=find_byid hi hc
      have a2:=find_byid hi hb
      rw[hci,a2] at a1
      exact(Option.some.inj a1).symm
     subst hcb
     have h3:=(deep_mono n c e' hd).2 (n+1) (by have:=(deep_mono n c e' hd).1;omega)
     rw[h3] at h0
     have:=Option.some.inj h0
     omega
    ·rcases List.mem_cons.1 hx with rfl|hx
     ·exact⟨b,hb,rfl,e+1,Nat.le_refl _,h0⟩
     ·obtain⟨c,hc,hci,e',hle,hd⟩:=h2 _ hx
      have h3:=(deep_mono n c e' hd).2 (n+1) (by have:=(deep_mono n c e' hd).1;omega)
      exact⟨c,hc,hci,e',by omega,h3⟩
theorem deep_le {l:List Br} (hi:idsAsc l) {n:Nat} {b:Br} {d:Nat} (hb:b∈l) (h:deep l n b=some d):d≤l.length:=by
 obtain⟨h1,h2⟩:=up_below hi n b d hb h
 have hl:=up_deep_len n b d h
 have hm:(sortI (upIds l n b)).length=(upIds l n b).length:=by unfold sortI;exact List.length_mergeSort _
 have hs:=asc_sub_len (a:=sortI (upIds l n b)) (b:=l.map Br.id) (sortI_asc _ h1) (List.Pairwise.map _ (fun _ _ h=>h) hi) (fun x hx=>by
  rw[mem_sortI] at hx
  obtain⟨c,hc,hci,_⟩:=h2 x hx
  exact List.mem_map.2 ⟨c,hc,hci⟩)
 rw[List.length_map] at hs
 omega
end Go.Proofs.YtdochkemaiokfaaGreat
/- A tree that is right but for its depth, by membership: what a change of a tree has to keep. No condition. -/
namespace Go.Proofs.YtdochkemaiokfaaGreat
open Go.RowKit
def UnitOk (b:Br):Prop:=within b.id 1 1073741824=true∧within b.level 1 4=true∧nameF b.title.data.toList=true∧(b.mark.toList.isEmpty=false→markF b.mark.data.toList=true)
def KidsAre (l:List Br) (ks:List Int) (p:Int):Prop:=ks.Nodup∧∀ x,x∈ks↔∃ b∈l,b.parent=p∧b.id=x
structure SoundM (t:Tr):Prop where
 len:t.brs.length≤256
 asc:idsAsc t.brs
 units:∀ b∈t.brs,UnitOk b
 marks:∀ b∈t.brs,∀ c∈t.brs,b.mark.toList.isEmpty=false→b.mark.toList=c.mark.toList→b.id=c.id
 placed:∀ b∈t.brs,BrPlaced t.brs b
 kids:∀ b∈t.brs,KidsAre t.brs b.kids b.id
 roots:KidsAre t.brs t.roots 0
 rank:∃ r:Int→Nat,∀ b∈t.brs,b.parent≠0→r b.parent<r b.id
theorem kidsAre_iff {l:List Br} (h:idsAsc l) (ks:List Int) (p:Int):KidsAre l ks p↔sortI ks=kidsOf l p:=by
 constructor
 ·rintro ⟨h1,h2⟩
  refine asc_ext (sortI_asc ks h1) (kidsOf_asc h p) (fun x=>?_)
  rw[mem_sortI,h2,mem_kidsOf]
 ·intro he
  have hn:ks.Nodup:=by
   have h1:(sortI ks).Nodup:=by
    rw[he]
    exact List.Pairwise.imp (fun h=>by omega) (kidsOf_asc h p)
   exact(List.mergeSort_perm ks _).nodup_iff.1 h1
  exact⟨hn,fun x=>by rw[← mem_sortI,he,mem_kidsOf]⟩
theorem asc_same {l:List Br} (h:idsAsc l) {b c:Br} (hb:b∈l) (hc:c∈l) (e:b.id=c.id):b=c:=by
 have h1:=find_byid h hb
 have h2:=find_byid h hc
 rw[e,h2] at h1
 exact(Option.some.inj h1).symm
theorem deep_of_rank {l:List Br} (hu:upOk l) (r:Int→Nat) (hr:∀ b∈l,b.parent≠0→r b.parent<r b.id):∀(n:Nat) (b:Br),b∈l→r b.id≤n→(deep l n b).isSome=true:=by
 intro n
 induction n with
 | zero =>
  intro b hb hn
  by_cases hp:b.parent=0
  ·simp[deep,hp]
  ·have:=hr b hb hp
   omega
 | succ n ih =>
  intro b hb hn
  by_cases hp:b.parent=0
  ·simp[deep,hp]
  ·rcases hu b hb with h|⟨p,h⟩
   ·exact absurd h hp
   ·have hin:=find_in h
    have h1:=hr b hb hp
    have h2:=ih p hin.1 (by rw[hin.2];omega)
    obtain⟨d,hd⟩:=Option.isSome_iff_exists.1 h2
    unfold deep
    rw[if_neg hp,h]
    show((deep l n p).map (· + 1)).isSome=true
    rw[hd]
    rfl
theorem deep_full {l:List Br} (hi:idsAsc l) {n:Nat} {b:Br} (hb:b∈l) (h:(deep l n b).isSome=true):(deep l l.length b).isSome=true:=by
 obtain⟨d,hd⟩:=Option.isSome_iff_exists.1 h
 rw[(deep_mono n b d hd).2 l.length (by have:=deep_le hi hb hd;omega)]
 rfl
theorem placed_upM {l:List Br} (h:∀ b∈l,BrPlaced l b):upOk l:=fun b hb=>by
 have:=h b hb
 unfold BrPlaced at this
 by_cases hp:b.parent=0
 ·exact .inl hp
 ·rw[if_neg hp] at this
  obtain⟨p,hpp,_⟩:=this
  exact .inr ⟨p,hpp⟩
theorem rank_of_deep {l:List Br} (hi:idsAsc l) (hu:upOk l) (h:∀ b∈l,(deep l l.length b).isSome=true):∃ r:Int→Nat,∀ b∈l,b.parent≠0→r b.parent<r b.id:=by
 refine⟨fun n=>match brFind l n with
  | none=>0
  | some b=>(deep l l.length b).getD 0,fun b hb hp=>?_⟩
 rcases hu b hb with h0|⟨p,hpf⟩
 ·exact absurd h0 hp
 ·have hin:=find_in hpf
  obtain⟨d,hd⟩:=Option.isSome_iff_exists.1 (h b hb)
  obtain⟨e,he⟩:=Option.isSome_iff_exists.1 (h p hin.1)
  simp only [hpf,find_byid hi hb,hd,he,Option.getD_some]
  have h1:deep l (l.length+1) b=some (e+1):=by
   unfold deep
   rw[if_neg hp,hpf]
   show(deep l l.length p).map (· + 1)=_
   rw[he]
   rfl
  have h2:=(deep_mono _ b d hd).2 (l.length+1) (by have:=(deep_mono _ b d hd).1;omega)
  rw[h1] at h2
  have:=Option.some.inj h2
  omega
theorem alone_iff (l:List Br):(∀ i (h:i<l.length),BrAlone l i h)↔idsAsc l∧(∀ b∈l,UnitOk b)∧∀ b∈l,∀ c∈l,b.mark.toList.isEmpty=false→b.mark.toList=c.mark.toList→b.id=c.id:=by
 constructor
 ·intro h
  have hasc:idsAsc l:=by
   refine List.pairwise_iff_getElem.2 ?_
   intro i j hi hj hij
   have key:∀(n:Nat) (h1:i+1+n<l.length),l[i].id<(l[i+1+n]'h1).id:=by
    intro n
    induction n with
    | zero=>intro h1;have:=(h (i+1) h1).2.2.1 (by omega);simpa using this
    | succ n ih =>
     intro h1
     have h2:=ih (by omega)
     have h3:=(h (i+1+(n+1)) h1).2.2.1 (by omega)
     have h4:l[i+1+(n+1)-1]'(by omega)=l[i+1+n]'(by omega):=by congr 1
     rw[h4] at h3
     omega
   have:=key (j-(i+1)) (by omega)
   have h4:l[i+1+(j-(i+1))]'(by omega)=l[j]:=by congr 1;omega
   rw[h4] at this
   exact this
  refine⟨hasc,fun b hb=>?_,fun b hb c hc hne he=>?_⟩
  ·obtain⟨k,hk,rfl⟩:=List.mem_iff_getElem.1 hb
   obtain⟨h1,h2,h3,h4,h5⟩:=h k hk
   exact⟨h1,h2,h4,fun hm=>(h5 hm).1⟩
  ·obtain⟨i,hi,rfl⟩:=List.mem_iff_getElem.1 hb
   obtain⟨j,hj,rfl⟩:=List.mem_iff_getElem.1 hc
   have key:∀(i j:Nat) (hi:i<l.length) (hj:j<l.length),i<j→l[j].mark.toList.isEmpty=false→l[i].mark.toList=l[j].mark.toList→False:=by
    intro i j hi hj hij hne he
    have:=((h j hj).2.2.2.2 hne).2
    rw[List.any_eq_false] at this
    have h1:=this l[i] (List.mem_iff_getElem.2 ⟨i,by rw[List.length_take];omega,List.getElem_take⟩)
    simp[he] at h1
   by_cases hij:i=j
   ·subst hij;rfl
   ·exfalso
    rcases Nat.lt_or_gt_of_ne hij with hlt|hlt
    ·exact key i j hi hj hlt (by rw[← he];exact hne) he
    ·exact key j i hj hi hlt hne he.symm
 ·rintro ⟨hasc,hu,hm⟩ i hi
  obtain⟨h1,h2,h3,h4⟩:=hu l[i] (List.getElem_mem hi)
  refine⟨h1,h2,fun h0=>List.pairwise_iff_getElem.1 hasc (i-1) i (by omega) hi (by omega),h3,fun hne=>⟨h4 hne,?_⟩⟩
  rw[List.any_eq_false]
  intro b hb
  obtain⟨j,hj,rfl⟩:=List.mem_iff_getElem.1 hb
  rw[List.length_take] at hj
  rw[List.getElem_take]
  intro he
  have h5:=hm l[i] (List.getElem_mem hi) l[j] (List.getElem_mem (by omega)) hne (by simpa using (beq_iff_eq.1 he).symm)
  have h6:=List.pairwise_iff_getElem.1 hasc j i (by omega) hi (by omega)
  omega
end Go.Proofs.YtdochkemaiokfaaGreat
/- tree.depth, walked: which fault it says. No condition but the sizes. -/
namespace Go.Proofs.YtdochkemaiokfaaGreat
open Go.RowKit
def RetIffS (P S:Prop) (w:World) (e:Ending) (w':World):Prop:=∃ n:Int,e=.returned (.int .i64 n)∧(n=0↔P)∧(S→n=0∨n=15)∧Grew w w'
theorem RetIffS.no {P S:Prop} {w w':World} (n:Int) (hn:n≠0) (h:¬ P) (hs:S→n=15∨n=15) (hg:Grew w w'):RetIffS P S w (.returned (.int .i64 n)) w':=⟨n,rfl,⟨fun e=>absurd e hn,fun e=>absurd e h⟩,fun s=>.inr ((hs s).elim id id),hg⟩
theorem RetIffS.yes {P S:Prop} {w w':World} (h:P) (hg:Grew w w'):RetIffS P S w (.returned (.int .i64 0)) w':=⟨0,rfl,⟨fun _=>h,fun _=>rfl⟩,fun _=>.inl rfl,hg⟩
theorem RetIff.s {P:Prop} {w w':World} {e:Ending} (h:RetIff P w e w'):RetIffS P P w e w':=by
 obtain⟨n,he,hn,hg⟩:=h
 exact⟨n,he,hn,fun p=>.inl (hn.2 p),hg⟩
set_option maxRecDepth 100000 in
set_option maxHeartbeats 4000000 in
theorem tDepthX (l:List Br) (i:Nat) (hi:i<l.length) (rv bv:Value) (w:World) (hv:SlBr w bv l) (hlen:l.length≤1000000) (hP:∀ i (h:i<l.length),BrPlaced l l[i]) :
  Calls Tryz.prog 200 #[.agg #[rv,bv],.int .i64 i] w (RetIffS (BrDeep l l[i]) ((deep l l.length l[i]).isSome=true) w):=by
 have HV:=Lib.hid hv
 obtain⟨A,c,rfl,hlc,hc,hr⟩:=hv.open_
 unfold maxLen at hc
 obtain⟨b,off,rfl,hbk,hcell⟩:=hr (by omega)
 have HCELL:=Lib.hid hcell
 obtain⟨kv,-,hcl⟩:=hcell i hi
 obtain⟨c0,c1,c2,c3,c4,-⟩:=hcl w (Grew.refl w)
 have hiz:(i:Int)<(l.length:Int):=by omega
 have h0z:(0:Int)≤(i:Int):=by omega
 have HM:=Lib.hid (List.getElem_mem hi)
 have HD:RowKit.Hid (BrDeep l l[i]↔∃ d,deep l l.length l[i]=some d∧d≤12):=Iff.rfl
 have HSD:RowKit.Hid ((deep l l.length l[i]).isSome=true→∃ d,deep l l.length l[i]=some d):=fun h=>Option.isSome_iff_exists.1 h
 generalize hPS:((deep l l.length l[i]).isSome=true)=PS at HSD ⊢
 clear hPS
 generalize BrDeep l l[i]=PA at HD ⊢
 generalize hy:l[i]=y at c0 c1 c2 c3 c4 HD HM HSD
 clear hy
 obtain⟨yi,yp,yl,yt,ym,yk⟩:=y
 dsimp only at c0 c1 c2 c3 c4
 have HF:RowKit.Hid (∀ y∈l,y.parent≠0→∃ p,brFind l y.parent=some p):=fun y hy hne=>by
  obtain⟨j,hj,rfl⟩:=List.mem_iff_getElem.1 hy
  have:=hP j hj
  unfold BrPlaced at this
  rw[if_neg hne] at this
  obtain⟨p,hp,_⟩:=this
  exact⟨p,hp⟩
 clear hcell hcl hr hv hP
 go_enter Tryz.func200,Tryz.ntmps200
 go_wp2
 go_loopg [5,6] (l.length+1) (fun gg s5 s6 wr=>∃(m C:Nat) (y:Br),s5=.int .i64 (m+1:Nat)∧s6=.pointer (some ⟨C,0,none⟩)∧m≤l.length∧l.length+1-m≤gg∧w.heap.size+1≤C∧Aside (y∈l)∧Aside (HoldsU wr C y)∧Aside (Grew (w.alloc (.cells [rv,.slice (some ⟨b,off,none⟩) l.length c].toArray 43)) wr)∧Aside (deep l l.length ⟨yi,yp,yl,yt,ym,yk⟩=(deep l (l.length-m) y).map (· + m)))
 case atStart=>exact⟨0,w.heap.size+1,⟨yi,yp,yl,yt,ym,yk⟩,rfl,rfl,by omega,by omega,by omega,(show Aside _ from HM.out),(show Aside _ from holdsU_new w _ ⟨yi,yp,yl,yt,ym,yk⟩),(show Aside _ from(Grew.refl _).alloc _),(show Aside _ from(show _=_ by simp))⟩
 case round =>
  obtain⟨m,C,y,rfl,rfl,hm,hgk,hC,HYM,HU,BW,HDP⟩:=hrel
  have GW:Aside (Grew w wr):=((Grew.refl w).alloc _).trans BW.out
  have t1:=new_cell BW.out 1 _ rfl
  have t0:=new_cell BW.out 0 _ rfl
  obtain⟨u0,u1,u2,u3,u4⟩:=HU.out.cells
  by_cases hp0:y.parent=0
  ·have hdd:deep l l.length ⟨yi,yp,yl,yt,ym,yk⟩=some (1+m):=by rw[HDP.out,deep_zero _ _ _ hp0];rfl
   have hpp:(y.parent != 0)=false:=by simpa using hp0
   have HDD:=Lib.hid hdd
   generalize y.parent=zp at u1 hpp
   clear hdd hp0 u0 u2 u3 u4
   by_cases h12:12<m+1
   ·have h12z:(12:Int)<((m+1:Nat):Int):=by omega
    have Hn:RowKit.Hid (¬ PA):=fun h=>by
     obtain⟨d,hd,hle⟩:=HD.out.1 h
     rw[HDD.out] at hd
     cases hd
     omega
    go_wp2
    go_ret
    exact RetIffS.no 15 (by decide) Hn.out (fun _=>.inr rfl) GW.out
   ·have h12z:¬ (12:Int)<((m+1:Nat):Int):=by omega
    have Hy:RowKit.Hid PA:=HD.out.2 ⟨1+m,HDD.out,by omega⟩
    go_wp2
    go_ret
    exact RetIffS.yes Hy.out GW.out
  have hpp:(y.parent != 0)=true:=by simpa using hp0
  by_cases hcy:l.length<m+1
  ·have hcyz:(l.length:Int)<((m+1:Nat):Int):=by omega
   have Hn:RowKit.Hid (¬ PA):=fun h=>by
    obtain⟨d,hd,hle⟩:=HD.out.1 h
    rw[HDP.out,show l.length-m=0 by omega,deep_cycle _ _ hp0] at hd
    cases hd
   have HNS:RowKit.Hid (¬ PS):=fun h=>by
    obtain⟨d,hd⟩:=HSD.out h
    rw[HDP.out,show l.length-m=0 by omega,deep_cycle _ _ hp0] at hd
    cases hd
   generalize y.parent=zp at u1 hpp
   clear hp0 u0 u2 u3 u4
   go_wp2
   go_ret
   exact RetIffS.no 17 (by decide) Hn.out (fun h=>absurd h HNS.out) GW.out
  have hcyz:¬ (l.length:Int)<((m+1:Nat):Int):=by omega
  obtain⟨p,hfp⟩:=HF.out y HYM.out hp0
  obtain⟨k,hk,ek,e⟩:=brIdx_some hfp
  have hdn:deep l l.length ⟨yi,yp,yl,yt,ym,yk⟩=(deep l (l.length-(m+1)) p).map (· + (m+1)):=by
   rw[HDP.out,show l.length-m=(l.length-(m+1))+1 by omega,deep_up _ _ _ p hp0 hfp,Option.map_map]
   congr 1
   funext d
   simp
   omega
  have HDN:=Lib.hid hdn
  have HPM:=Lib.hid (show p∈l by rw[← e];exact List.getElem_mem hk)
  have kI:=fun W (hW:Grew w W)=>tIndex l y.parent rv (.slice (some ⟨b,off,none⟩) l.length c) W (HV.out.mono hW)
  rw[ek] at kI
  have hq:=HCELL.out k hk
  rw[e] at hq
  have HQ:=Lib.hid hq
  have KI:=Lib.hid kI
  have hkz:(k:Int)<(l.length:Int):=by omega
  have h0k:(0:Int)≤(k:Int):=by omega
  have HUU:=Lib.hid HU.out
  clear kI hq e ek hfp hdn hp0 HDP HU
  generalize hzp:y.parent=zp at u1 hpp KI
  clear hzp u0 u2 u3 u4
  obtain⟨pi,pp,pl,pt,pm,pk⟩:=p
  dsimp only at HQ
  obtain⟨_,-,hq⟩:=HQ.out
  obtain⟨d0,d1,d2,d3,d4,-⟩:=hq wr GW.out
  have f0:=Gr.cell d0
  have f1:=Gr.cell d1
  have f2:=Gr.cell d2
  have f3:=Gr.cell d3
  have f4:=Gr.cell d4
  have r0:=Gr.cell t0
  have r1:=Gr.cell t1
  have v1:=Gr.cell u1
  clear hq HQ d0 d1 d2 d3 d4
  go_wp2
  refine region_gr_last wr _ rfl (by kernel_rfl) (by kernel_rfl) (by kernel_rfl) (Grew.refl _) ?_
  simp only [blankLast]
  repeat (first|go_big_quiet_step ((go_at_call 63;exact Gr.calls _ (KI.out _ (GW.out.trans (Gr.g _)))))|quiet_step ((go_at_call 63;exact Gr.calls _ (KI.out _ (GW.out.trans (Gr.g _))))))
  refine wpQuiet_nil ?_
  intro _ hw'
  obtain⟨wi,rfl⟩:=hw'
  have HU1:=HUU.out.mono wi.g
  have HG1:=Lib.hid wi.g
  have hlt1:=HUU.out.lt
  have hlt2:=wi.g.size
  obtain⟨s0,s1,s2,s3,s4⟩:=HU1.cells
  have z0:=HU1.free 0
  have z1:=HU1.free 1
  have z2:=HU1.free 2
  have z3:=HU1.free 3
  have z4:=HU1.free 4
  clear HU1 u1 t0 t1 f0 f1 f2 f3 f4 r0 r1 v1
  go_simp
  go_wp2
  go_roundg (l.length+1-(m+1))
  case measure=>omega
  case rel =>
   refine⟨m+1,wi.W.heap.size,⟨pi,pp,pl,pt,pm,pk⟩,by go_num,rfl,by omega,by omega,by omega,(show Aside _ from HPM.out),?_,?_,(show Aside _ from HDN.out)⟩
   ·show HoldsU _ _ _
    with_reducible refine holdsU_lastH _ _ ?_ ⟨pi,pp,pl,pt,pm,pk⟩
    simp
   ·show Grew _ _
    with_reducible refine Grew.alloc ?_ _
    repeat (with_reducible refine Grew.setCell ?_ (by simpa using hC) _)
    exact BW.out.trans HG1.out
end Go.Proofs.YtdochkemaiokfaaGreat