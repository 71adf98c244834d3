/- The closure of UndoWithout, walked, and what slices.DeleteFunc with it leaves. No condition. -/
import Derived.Test.YtdochkemaiokfaaGreatQ28
import Derived.Test.YtdochkemaiokfaaGreatQ27
namespace Go.Proofs.YtdochkemaiokfaaGreat
open Go.RowKit
set_option maxRecDepth 100000 in
theorem lWithout1 (DB:Nat) (u:Int) (x:Opn) (w:World) (h:w.cell? ⟨DB,0,none⟩=some (.int .i64 u)):Calls Tryz.prog 37 (#[x.agg] ++ #[.pointer (some ⟨DB,0,none⟩)]) w fun e w'=>e=.returned (.bool (x.id == u || (x.kind == 6 && x.unit == u)))∧Grew w w':=by
 obtain⟨o0,o1,o2,o3,o4,o5,o6,o7,o8,o9,o10,o11⟩:=x
 unfold Opn.agg
 dsimp only
 have h3:=keep_cell ((Grew.refl w).alloc (.cells #[.int .i64 o0,.int .i64 o1,.int .i64 o2,.int .i64 o3,.int .i64 o4,.int .i64 o5,.int .i64 o6,.string o7,.string o8,.int .i64 o9,.int .i64 o10,.int .i64 o11] 26)) h
 cases h1:(o0 == u)<;>cases h2:(o2 == 6)<;>cases h4:(o3 == u)
 all_goals
  go_enter Tryz.func37,Tryz.ntmps37
  go_wp2
  go_ret
  exact⟨rfl,(Grew.refl w).alloc _⟩
theorem enters_lWithout1:∀ args w,(callFunc 37 args).run Tryz.prog w=.ok (.enter 37 args) w:=enters_of Tryz.func37 (by kernel_rfl) rfl
theorem lRest (l:List Opn) (u:Int) (DB base:Nat) (v:Value) (W:World) (h1:base≤W.heap.size) (ho:W.ownsRow base 26 12 v l.length (l.flatMap Opn.cells)) (hb:DB<base) (hc:W.cell? ⟨DB,0,none⟩=some (.int .i64 u)) :
  Calls Tryz.prog 36 #[v,.func (.func 37) #[] #[.pointer (some ⟨DB,0,none⟩)]] W fun e w'=>∃ v',e=.returned v'∧w'.ownsRow base 26 12 v' (restL l u).length ((restL l u).flatMap Opn.cells)∧Below base W w' :=
 deleteFuncO l (fun o=>o.id == u || (o.kind == 6 && o.unit == u)) _ #[.pointer (some ⟨DB,0,none⟩)] enters_lWithout1 base v W h1 ho (fun W2 x hg _=>lWithout1 DB u x W2 ((Below.cell hg hb).trans hc))
end Go.Proofs.YtdochkemaiokfaaGreat