/- Package ops: the table of the operations, and the contracts of kinds, is, of, Word; Package ops: the contracts of of, Word, TypeWord, Any, Numbered, Check, Pure, Trap; Package ops: the contracts of typed, Any, Numbered, Check, Trap, and of the document's Type, Check and Rows; Package ops: the contracts of Makes; Package ops: the contract of Takes. -/
import Derived.Test.YtjllbchfojonhaaGreatDoorB1
import Derived.Laws.Tables
import Derived.Laws.Rows
import Derived.Laws.RangeString
import Derived.Lib.OthersKept
set_option linter.unusedVariables false
set_option linter.unusedSimpArgs false
set_option maxRecDepth 100000
set_option maxHeartbeats 200000000
namespace Go.Proofs.YtjllbchfojonhaaGreatDoor
open Go.RowKit
def jb:Nat→ByteArray
 |0=>⟨#[99,111,110,115,116]⟩
 |1=>⟨#[99,111,112,121]⟩
 |2=>⟨#[97,100,100]⟩
 |3=>⟨#[115,117,98]⟩
 |4=>⟨#[109,117,108]⟩
 |5=>⟨#[100,105,118]⟩
 |6=>⟨#[114,101,109]⟩
 |7=>⟨#[101,113]⟩
 |8=>⟨#[108,116]⟩
 |9=>⟨#[108,101]⟩
 |10=>⟨#[110,111,116]⟩
 |11=>⟨#[97,110,100]⟩
 |12=>⟨#[108,101,110]⟩
 |13=>⟨#[108,111,97,100]⟩
 |14=>⟨#[115,116,111,114,101]⟩
 |15=>⟨#[110,101,119]⟩
 |16=>⟨#[110,105,108]⟩
 |17=>⟨#[111,117,116]⟩
 |18=>⟨#[99,104,107,105,100,120]⟩
 |19=>⟨#[99,104,107,110,105,108]⟩
 |20=>⟨#[99,104,107,100,105,118]⟩
 |21=>⟨#[99,104,107,97,100,100]⟩
 |22=>⟨#[99,104,107,115,117,98]⟩
 |23=>⟨#[99,104,107,109,117,108]⟩
 |24=>⟨#[99,104,107,108,101,110]⟩
 |25=>⟨#[112,105]⟩
 |26=>⟨#[112,105,108,101,110]⟩
 |_=>⟨#[]⟩
def dh:Nat→ByteArray
 |0=>⟨#[]⟩
 |1=>⟨#[105]⟩
 |2=>⟨#[105,105]⟩
 |3=>⟨#[105,105]⟩
 |4=>⟨#[105,105]⟩
 |5=>⟨#[105,105]⟩
 |6=>⟨#[105,105]⟩
 |7=>⟨#[105,105]⟩
 |8=>⟨#[105,105]⟩
 |9=>⟨#[105,105]⟩
 |10=>⟨#[98]⟩
 |11=>⟨#[98,98]⟩
 |12=>⟨#[97]⟩
 |13=>⟨#[97,105]⟩
 |14=>⟨#[97,105,105]⟩
 |15=>⟨#[105]⟩
 |16=>⟨#[]⟩
 |17=>⟨#[105]⟩
 |18=>⟨#[97,105]⟩
 |19=>⟨#[97]⟩
 |20=>⟨#[105]⟩
 |21=>⟨#[105,105]⟩
 |22=>⟨#[105,105]⟩
 |23=>⟨#[105,105]⟩
 |24=>⟨#[105]⟩
 |25=>⟨#[105,105]⟩
 |26=>⟨#[105,97]⟩
 |_=>⟨#[]⟩
def jq:Nat→ByteArray
 |0=>⟨#[105]⟩
 |1=>⟨#[105]⟩
 |2=>⟨#[105]⟩
 |3=>⟨#[105]⟩
 |4=>⟨#[105]⟩
 |5=>⟨#[105]⟩
 |6=>⟨#[105]⟩
 |7=>⟨#[98]⟩
 |8=>⟨#[98]⟩
 |9=>⟨#[98]⟩
 |10=>⟨#[98]⟩
 |11=>⟨#[98]⟩
 |12=>⟨#[105]⟩
 |13=>⟨#[105]⟩
 |14=>⟨#[]⟩
 |15=>⟨#[97]⟩
 |16=>⟨#[97]⟩
 |17=>⟨#[]⟩
 |18=>⟨#[]⟩
 |19=>⟨#[]⟩
 |20=>⟨#[]⟩
 |21=>⟨#[]⟩
 |22=>⟨#[]⟩
 |23=>⟨#[]⟩
 |24=>⟨#[]⟩
 |25=>⟨#[105]⟩
 |26=>⟨#[105]⟩
 |_=>⟨#[]⟩
def jv:Array Value:=#[.string ⟨#[99,111,110,115,116]⟩,.string ⟨#[]⟩,.string ⟨#[105]⟩,.string ⟨#[99,111,112,121]⟩,.string ⟨#[105]⟩,.string ⟨#[105]⟩,.string ⟨#[97,100,100]⟩,.string ⟨#[105,105]⟩,.string ⟨#[105]⟩,.string ⟨#[115,117,98]⟩,.string ⟨#[105,105]⟩,.string ⟨#[105]⟩,.string ⟨#[109,117,108]⟩,.string ⟨#[105,105]⟩,.string ⟨#[105]⟩,.string ⟨#[100,105,118]⟩,.string ⟨#[105,105]⟩,.string ⟨#[105]⟩,.string ⟨#[114,101,109]⟩,.string ⟨#[105,105]⟩,.string ⟨#[105]⟩,.string ⟨#[101,113]⟩,.string ⟨#[105,105]⟩,.string ⟨#[98]⟩,.string ⟨#[108,116]⟩,.string ⟨#[105,105]⟩,.string ⟨#[98]⟩,.string ⟨#[108,101]⟩,.string ⟨#[105,105]⟩,.string ⟨#[98]⟩,.string ⟨#[110,111,116]⟩,.string ⟨#[98]⟩,.string ⟨#[98]⟩,.string ⟨#[97,110,100]⟩,.string ⟨#[98,98]⟩,.string ⟨#[98]⟩,.string ⟨#[108,101,110]⟩,.string ⟨#[97]⟩,.string ⟨#[105]⟩,.string ⟨#[108,111,97,100]⟩,.string ⟨#[97,105]⟩,.string ⟨#[105]⟩,.string ⟨#[115,116,111,114,101]⟩,.string ⟨#[97,105,105]⟩,.string ⟨#[]⟩,.string ⟨#[110,101,119]⟩,.string ⟨#[105]⟩,.string ⟨#[97]⟩,.string ⟨#[110,105,108]⟩,.string ⟨#[]⟩,.string ⟨#[97]⟩,.string ⟨#[111,117,116]⟩,.string ⟨#[105]⟩,.string ⟨#[]⟩,.string ⟨#[99,104,107,105,100,120]⟩,.string ⟨#[97,105]⟩,.string ⟨#[]⟩,.string ⟨#[99,104,107,110,105,108]⟩,.string ⟨#[97]⟩,.string ⟨#[]⟩,.string ⟨#[99,104,107,100,105,118]⟩,.string ⟨#[105]⟩,.string ⟨#[]⟩,.string ⟨#[99,104,107,97,100,100]⟩,.string ⟨#[105,105]⟩,.string ⟨#[]⟩,.string ⟨#[99,104,107,115,117,98]⟩,.string ⟨#[105,105]⟩,.string ⟨#[]⟩,.string ⟨#[99,104,107,109,117,108]⟩,.string ⟨#[105,105]⟩,.string ⟨#[]⟩,.string ⟨#[99,104,107,108,101,110]⟩,.string ⟨#[105]⟩,.string ⟨#[]⟩,.string ⟨#[112,105]⟩,.string ⟨#[105,105]⟩,.string ⟨#[105]⟩,.string ⟨#[112,105,108,101,110]⟩,.string ⟨#[105,97]⟩,.string ⟨#[105]⟩]
theorem kidx_0 (w:World):(Instr.index 193 (.agg jv) (.int .i64 0)).run Tryz.prog w= .ok (.agg #[.string ⟨#[99,111,110,115,116]⟩,.string ⟨#[]⟩,.string ⟨#[105]⟩]) w:=by kernel_rfl
theorem kidx_1 (w:World):(Instr.index 193 (.agg jv) (.int .i64 1)).run Tryz.prog w= .ok (.agg #[.string ⟨#[99,111,112,121]⟩,.string ⟨#[105]⟩,.string ⟨#[105]⟩]) w:=by kernel_rfl
theorem kidx_2 (w:World):(Instr.index 193 (.agg jv) (.int .i64 2)).run Tryz.prog w= .ok (.agg #[.string ⟨#[97,100,100]⟩,.string ⟨#[105,105]⟩,.string ⟨#[105]⟩]) w:=by kernel_rfl
theorem kidx_3 (w:World):(Instr.index 193 (.agg jv) (.int .i64 3)).run Tryz.prog w= .ok (.agg #[.string ⟨#[115,117,98]⟩,.string ⟨#[105,105]⟩,.string ⟨#[105]⟩]) w:=by kernel_rfl
theorem kidx_4 (w:World):(Instr.index 193 (.agg jv) (.int .i64 4)).run Tryz.prog w= .ok (.agg #[.string ⟨#[109,117,108]⟩,.string ⟨#[105,105]⟩,.string ⟨#[105]⟩]) w:=by kernel_rfl
theorem kidx_5 (w:World):(Instr.index 193 (.agg jv) (.int .i64 5)).run Tryz.prog w= .ok (.agg #[.string ⟨#[100,105,118]⟩,.string ⟨#[105,105]⟩,.string ⟨#[105]⟩]) w:=by kernel_rfl
theorem kidx_6 (w:World):(Instr.index 193 (.agg jv) (.int .i64 6)).run Tryz.prog w= .ok (.agg #[.string ⟨#[114,101,109]⟩,.string ⟨#[105,105]⟩,.string ⟨#[105]⟩]) w:=by kernel_rfl
theorem kidx_7 (w:World):(Instr.index 193 (.agg jv) (.int .i64 7)).run Tryz.prog w= .ok (.agg #[.string ⟨#[101,113]⟩,.string ⟨#[105,105]⟩,.string ⟨#[98]⟩]) w:=by kernel_rfl
theorem kidx_8 (w:World):(Instr.index 193 (.agg jv) (.int .i64 8)).run Tryz.prog w= .ok (.agg #[.string ⟨#[108,116]⟩,.string ⟨#[105,105]⟩,.string ⟨#[98]⟩]) w:=by kernel_rfl
theorem kidx_9 (w:World):(Instr.index 193 (.agg jv) (.int .i64 9)).run Tryz.prog w= .ok (.agg #[.string ⟨#[108,101]⟩,.string ⟨#[105,105]⟩,.string ⟨#[98]⟩]) w:=by kernel_rfl
theorem kidx_10 (w:World):(Instr.index 193 (.agg jv) (.int .i64 10)).run Tryz.prog w= .ok (.agg #[.string ⟨#[110,111,116]⟩,.string ⟨#[98]⟩,.string ⟨#[98]⟩]) w:=by kernel_rfl
theorem kidx_11 (w:World):(Instr.index 193 (.agg jv) (.int .i64 11)).run Tryz.prog w= .ok (.agg #[.string ⟨#[97,110,100]⟩,.string ⟨#[98,98]⟩,.string ⟨#[98]⟩]) w:=by kernel_rfl
theorem kidx_12 (w:World):(Instr.index 193 (.agg jv) (.int .i64 12)).run Tryz.prog w= .ok (.agg #[.string ⟨#[108,101,110]⟩,.string ⟨#[97]⟩,.string ⟨#[105]⟩]) w:=by kernel_rfl
theorem kidx_13 (w:World):(Instr.index 193 (.agg jv) (.int .i64 13)).run Tryz.prog w= .ok (.agg #[.string ⟨#[108,111,97,100]⟩,.string ⟨#[97,105]⟩,.string ⟨#[105]⟩]) w:=by kernel_rfl
theorem kidx_14 (w:World):(Instr.index 193 (.agg jv) (.int .i64 14)).run Tryz.prog w= .ok (.agg #[.string ⟨#[115,116,111,114,101]⟩,.string ⟨#[97,105,105]⟩,.string ⟨#[]⟩]) w:=by kernel_rfl
theorem kidx_15 (w:World):(Instr.index 193 (.agg jv) (.int .i64 15)).run Tryz.prog w= .ok (.agg #[.string ⟨#[110,101,119]⟩,.string ⟨#[105]⟩,.string ⟨#[97]⟩]) w:=by kernel_rfl
theorem kidx_16 (w:World):(Instr.index 193 (.agg jv) (.int .i64 16)).run Tryz.prog w= .ok (.agg #[.string ⟨#[110,105,108]⟩,.string ⟨#[]⟩,.string ⟨#[97]⟩]) w:=by kernel_rfl
theorem kidx_17 (w:World):(Instr.index 193 (.agg jv) (.int .i64 17)).run Tryz.prog w= .ok (.agg #[.string ⟨#[111,117,116]⟩,.string ⟨#[105]⟩,.string ⟨#[]⟩]) w:=by kernel_rfl
theorem kidx_18 (w:World):(Instr.index 193 (.agg jv) (.int .i64 18)).run Tryz.prog w= .ok (.agg #[.string ⟨#[99,104,107,105,100,120]⟩,.string ⟨#[97,105]⟩,.string ⟨#[]⟩]) w:=by kernel_rfl
theorem kidx_19 (w:World):(Instr.index 193 (.agg jv) (.int .i64 19)).run Tryz.prog w= .ok (.agg #[.string ⟨#[99,104,107,110,105,108]⟩,.string ⟨#[97]⟩,.string ⟨#[]⟩]) w:=by kernel_rfl
theorem kidx_20 (w:World):(Instr.index 193 (.agg jv) (.int .i64 20)).run Tryz.prog w= .ok (.agg #[.string ⟨#[99,104,107,100,105,118]⟩,.string ⟨#[105]⟩,.string ⟨#[]⟩]) w:=by kernel_rfl
theorem kidx_21 (w:World):(Instr.index 193 (.agg jv) (.int .i64 21)).run Tryz.prog w= .ok (.agg #[.string ⟨#[99,104,107,97,100,100]⟩,.string ⟨#[105,105]⟩,.string ⟨#[]⟩]) w:=by kernel_rfl
theorem kidx_22 (w:World):(Instr.index 193 (.agg jv) (.int .i64 22)).run Tryz.prog w= .ok (.agg #[.string ⟨#[99,104,107,115,117,98]⟩,.string ⟨#[105,105]⟩,.string ⟨#[]⟩]) w:=by kernel_rfl
theorem kidx_23 (w:World):(Instr.index 193 (.agg jv) (.int .i64 23)).run Tryz.prog w= .ok (.agg #[.string ⟨#[99,104,107,109,117,108]⟩,.string ⟨#[105,105]⟩,.string ⟨#[]⟩]) w:=by kernel_rfl
theorem kidx_24 (w:World):(Instr.index 193 (.agg jv) (.int .i64 24)).run Tryz.prog w= .ok (.agg #[.string ⟨#[99,104,107,108,101,110]⟩,.string ⟨#[105]⟩,.string ⟨#[]⟩]) w:=by kernel_rfl
theorem kidx_25 (w:World):(Instr.index 193 (.agg jv) (.int .i64 25)).run Tryz.prog w= .ok (.agg #[.string ⟨#[112,105]⟩,.string ⟨#[105,105]⟩,.string ⟨#[105]⟩]) w:=by kernel_rfl
theorem kidx_26 (w:World):(Instr.index 193 (.agg jv) (.int .i64 26)).run Tryz.prog w= .ok (.agg #[.string ⟨#[112,105,108,101,110]⟩,.string ⟨#[105,97]⟩,.string ⟨#[105]⟩]) w:=by kernel_rfl
theorem kindex (k:Nat) (hk:k<27) (w:World):(Instr.index 193 (.agg jv) (.int .i64 k)).run Tryz.prog w= .ok (.agg #[.string (jb k),.string (dh k),.string (jq k)]) w:=
 match k,hk with
 |0,_=>kidx_0 w
 |1,_=>kidx_1 w
 |2,_=>kidx_2 w
 |3,_=>kidx_3 w
 |4,_=>kidx_4 w
 |5,_=>kidx_5 w
 |6,_=>kidx_6 w
 |7,_=>kidx_7 w
 |8,_=>kidx_8 w
 |9,_=>kidx_9 w
 |10,_=>kidx_10 w
 |11,_=>kidx_11 w
 |12,_=>kidx_12 w
 |13,_=>kidx_13 w
 |14,_=>kidx_14 w
 |15,_=>kidx_15 w
 |16,_=>kidx_16 w
 |17,_=>kidx_17 w
 |18,_=>kidx_18 w
 |19,_=>kidx_19 w
 |20,_=>kidx_20 w
 |21,_=>kidx_21 w
 |22,_=>kidx_22 w
 |23,_=>kidx_23 w
 |24,_=>kidx_24 w
 |25,_=>kidx_25 w
 |26,_=>kidx_26 w
 |n+27,h=>absurd h (by omega)
theorem is_yes (k:Nat) (hk:k<27) (w:World):Calls Tryz.prog 132 #[.int .i64 k] w fun e w'=>e= .returned (.bool true)∧w=w':=by
 go_enter Tryz.func132,Tryz.ntmps132;go_wp2;go_ret;exact⟨ay (by simp;omega),rfl⟩
theorem is_no (op:Int) (h:op<0∨27≤op) (w:World):Calls Tryz.prog 132 #[.int .i64 op] w fun e w'=>e= .returned (.bool false)∧w=w':=by
 rcases Bool.eq_false_or_eq_true (decide (0≤op))with h0|h0
 ·have h1:¬op<27:=(by simp at h0;omega);clear h;go_enter Tryz.func132,Tryz.ntmps132;go_wp2;go_ret;exact⟨by first |rfl|simp[h1],rfl⟩
 ·clear h;go_enter Tryz.func132,Tryz.ntmps132;go_wp2;go_ret;exact⟨rfl,rfl⟩
theorem keeps_row (w:World) (o:Obj) (cs:Array Value):ai w ((w.alloc o).setRow w.heap.size cs) []:=
 ⟨rfl,rfl,rfl,by simp,fun k hk _=>(setRow_other _ _ _ _ (by omega)).trans (Below.heap_alloc w o k hk)⟩
theorem wpList_build_cells {P:Program} {ops:Array Oper} {rest:List Oper} {o:Oper} {a:Act} {w:World} {Q:Exit→Act→World→Prop} (hg:o.guard=none) (t:TypeId) (parts:Array (Nat×Operand)) (ho:o.op= .build t parts) (cells:Array Value)
  (hc:P.built t (parts.map fun(i,x)=>(i,a.eval x)).toList=some cells) (h:wpList P ops Q rest (a.put o.dst (.agg cells)) w):wpList P ops Q (o::rest) a w:=
 wpList_build hg t parts ho (by rw[hc];rfl) (by rw[hc];exact h)
theorem kinds_any (w:World):Calls Tryz.prog 133 #[] w fun e w'=>e= .returned (.agg jv)∧ai w w' []:=by
 go_enter Tryz.func133,Tryz.ntmps133;go_wp2_with (first |(refine wpList_build_cells rfl 193 _ rfl jv (by kernel_rfl) ?_)|(refine wpList_store_row rfl 193 _ _ rfl w.heap.size jv rfl rfl 193 _ (heap_alloc_new w _) (by kernel_rfl) (by kernel_rfl) (by kernel_rfl) ?_))
 exact bodyPost_ret (v:= .agg jv) (results_cell_row Tryz.results133 _ _ w.heap.size 193 jv (0,0) _ rfl (setRow_heap _ _ _ _ _ _ (heap_alloc_new w _)) Tryz.underlying193 rfl (by kernel_rfl)) rfl ⟨rfl,keeps_row w _ _⟩
end Go.Proofs.YtjllbchfojonhaaGreatDoor
namespace Go.Proofs.YtjllbchfojonhaaGreatDoor
open Go.RowKit
theorem kfield0 (a b c:ByteArray):∀w,(Instr.field 165 (.agg #[.string a,.string b,.string c]) 0).run Tryz.prog w= .ok (.string a) w:=by intro w;kernel_rfl
theorem kfield1 (a b c:ByteArray):∀w,(Instr.field 165 (.agg #[.string a,.string b,.string c]) 1).run Tryz.prog w= .ok (.string b) w:=by intro w;kernel_rfl
theorem kfield2 (a b c:ByteArray):∀w,(Instr.field 165 (.agg #[.string a,.string b,.string c]) 2).run Tryz.prog w= .ok (.string c) w:=by intro w;kernel_rfl
theorem of_yes (k:Nat) (hk:k<27) (w:World):Calls Tryz.prog 109 #[.int .i64 k] w fun e w'=>e= .returned (.agg #[.string (jb k),.string (dh k),.string (jq k)])∧ai w w' []:=by
 have CI:=ag (fun w=>is_yes k hk w);have ix:=kindex k hk;generalize jb k=x at*;generalize dh k=y at*;generalize jq k=z at*;generalize hc:jv=kc at*;have CK:=ag (fun w=>kinds_any w);rw[hc]at CK;clear hc;go_enter Tryz.func109,Tryz.ntmps109;go_wp2_with fail
 refine(CI.o _).mono ?_;rintro e w' ⟨rfl,rfl⟩;go_wp2_with fail
 refine(CK.o _).mono ?_;rintro e w1 ⟨rfl,k1⟩;have b:=(Blk.new w 165 _).keep k1 (by simp);have c0:=b.cell 0;have c1:=b.cell 1;have c2:=b.cell 2;simp at c0 c1 c2;have f0:=b.frozen 0;have f1:=b.frozen 1;have f2:=b.frozen 2;have K1:=ag k1;clear k1 b;go_wp2;exact bodyPost_ret (v:= .agg #[.string x,.string y,.string z]) (by simp[results,Tryz.results109,go_sem,c0,c1,c2]) rfl ⟨rfl,(((((ai.refl w []).alloc _).trans K1.o).setCell (.inr (by simp)) _).setCell (.inr (by simp)) _).setCell (.inr (by simp)) _⟩
theorem of_no (op:Int) (h:op<0∨27≤op) (w:World):Calls Tryz.prog 109 #[.int .i64 op] w fun e w'=>e= .returned (.agg #[.string ⟨#[]⟩,.string ⟨#[]⟩,.string ⟨#[]⟩])∧ai w w' []:=by
 have CI:=ag (fun w=>is_no op h w);clear h;go_enter Tryz.func109,Tryz.ntmps109;go_wp2_with fail
 refine(CI.o _).mono ?_;rintro e w' ⟨rfl,rfl⟩;go_wp2;exact bodyPost_ret (v:= .agg #[.string ⟨#[]⟩,.string ⟨#[]⟩,.string ⟨#[]⟩]) (by simp[results,Tryz.results109,go_sem]) rfl ⟨rfl,(ai.refl w []).alloc _⟩
theorem word_yes (k:Nat) (hk:k<27) (w:World):Calls Tryz.prog 122 #[.int .i64 k] w fun e w'=>e= .returned (.string (jb k))∧ai w w' []:=by
 have C:=ag (fun w=>of_yes k hk w);have hf:=kfield0 (jb k) (dh k) (jq k);generalize jb k=x at*;go_enter Tryz.func122,Tryz.ntmps122;go_wp2_with fail
 refine(C.o _).mono ?_;rintro e w1 ⟨rfl,k1⟩;have K1:=ag k1;clear k1;go_wp2;go_ret;exact⟨rfl,K1.o⟩
theorem word_no (op:Int) (h:op<0∨27≤op) (w:World):Calls Tryz.prog 122 #[.int .i64 op] w fun e w'=>e= .returned (.string ⟨#[]⟩)∧ai w w' []:=by
 have C:=ag (fun w=>of_no op h w);have hf:=kfield0 ⟨#[]⟩ ⟨#[]⟩ ⟨#[]⟩;clear h;go_enter Tryz.func122,Tryz.ntmps122;go_wp2_with fail
 refine(C.o _).mono ?_;rintro e w1 ⟨rfl,k1⟩;have K1:=ag k1;clear k1;go_wp2;go_ret;exact⟨rfl,K1.o⟩
end Go.Proofs.YtjllbchfojonhaaGreatDoor
namespace Go.Proofs.YtjllbchfojonhaaGreatDoor
open Go.RowKit
def Af (c:Int):Int:=if c=98 then 1 else if c=97 then 2 else 0
theorem typed_any (c:Int) (w:World):Calls Tryz.prog 110 #[.int .i32 c] w fun e w'=>e= .returned (.int .i64 (Af c))∧w=w':=by
 by_cases h98:c=98
 ·subst h98;go_enter Tryz.func110,Tryz.ntmps110;go_wp2;go_ret;exact⟨rfl,rfl⟩
 by_cases h97:c=97
 ·subst h97;go_enter Tryz.func110,Tryz.ntmps110;go_wp2;go_ret;exact⟨rfl,rfl⟩
 have e98:(c==98)=false:=(by simpa using h98);have e97:(c==97)=false:=(by simpa using h97);have e:Af c=0:=(by unfold Af;rw[if_neg h98,if_neg h97]);rw[e];clear e h98 h97;go_enter Tryz.func110,Tryz.ntmps110;go_wp2;go_ret;exact⟨rfl,rfl⟩
theorem reftype_any (c:Int) (w:World):Calls Tryz.prog 78 #[.int .u8 c] w fun e w'=>e= .returned (.int .i64 (Af c))∧w=w':=by
 by_cases h98:c=98
 ·subst h98;go_enter Tryz.func78,Tryz.ntmps78;go_wp2;go_ret;exact⟨rfl,rfl⟩
 by_cases h97:c=97
 ·subst h97;go_enter Tryz.func78,Tryz.ntmps78;go_wp2;go_ret;exact⟨rfl,rfl⟩
 have e98:(c==98)=false:=(by simpa using h98);have e97:(c==97)=false:=(by simpa using h97);have e:Af c=0:=(by unfold Af;rw[if_neg h98,if_neg h97]);rw[e];clear e h98 h97;go_enter Tryz.func78,Tryz.ntmps78;go_wp2;go_ret;exact⟨rfl,rfl⟩
def qx (op:Int):Bool:=decide (18≤op)&&decide (op≤24)
theorem Du (op:Int) (w:World):Calls Tryz.prog 67 #[.int .i64 op] w fun e w'=>e= .returned (.bool (qx op))∧w=w':=by
 have e:qx op=(decide (18≤op)&&decide (op≤24)):=rfl;rw[e];clear e;rcases Bool.eq_false_or_eq_true (decide (18≤op))with h|h
 all_goals
  rw[h];go_enter Tryz.func67,Tryz.ntmps67;go_wp2;go_ret;exact⟨ay (by simp),rfl⟩
theorem eu (op:Int) (w:World) (hop: -9223372036854775808≤op∧op≤9223372036854775807):Calls Tryz.prog 12 #[.int .i64 op] w fun e w'=>e= .returned (.int .i64 (if qx op=true then op -17 else 0))∧w=w':=by
 by_cases h1:op<18
 ·have e:qx op=false:=(by simp[qx];omega);rw[e,if_neg (by decide)];clear e;go_enter Tryz.func12,Tryz.ntmps12;go_wp2;go_ret;exact⟨rfl,rfl⟩
 by_cases h2:24<op
 ·have e:qx op=false:=(by simp[qx];omega);rw[e,if_neg (by decide)];clear e;go_enter Tryz.func12,Tryz.ntmps12;go_wp2;go_ret;exact⟨rfl,rfl⟩
 ·have e:qx op=true:=(by simp[qx];omega);have h3:18≤op:=(by omega);have h4:op≤24:=(by omega);rw[e,if_pos rfl];clear e;go_enter Tryz.func12,Tryz.ntmps12;go_wp2;go_ret;exact⟨rfl,rfl⟩
theorem any_any (op:Int) (w:World):Calls Tryz.prog 96 #[.int .i64 op] w fun e w'=>e= .returned (.bool (op==1))∧w=w':=by
 go_enter Tryz.func96,Tryz.ntmps96;go_wp2;go_ret;exact⟨rfl,rfl⟩
theorem numbered_any (op:Int) (w:World):Calls Tryz.prog 123 #[.int .i64 op] w fun e w'=>e= .returned (.bool (op==0||op==25))∧w=w':=by
 rcases Bool.eq_false_or_eq_true (op==0)with h|h
 ·have e:op=0:=(by simpa using h);subst e;go_enter Tryz.func123,Tryz.ntmps123;go_wp2;go_ret;exact⟨rfl,rfl⟩
 ·rw[h];go_enter Tryz.func123,Tryz.ntmps123;go_wp2;go_ret;exact⟨ay (by simp),rfl⟩
theorem rows_any (w:World):Calls Tryz.prog 51 #[] w fun e w'=>e= .returned (.slice (some ⟨w.heap.size,0,none⟩) 27 27)∧w'=w.alloc (.cells jv 110):=by
 go_enter Tryz.func51,Tryz.ntmps51;go_wp2;go_ret;exact⟨rfl,rfl⟩
theorem kcell (k:Nat) (hk:k<27):jv[k*3]? =some (.string (jb k))∧jv[k*3+1]? =some (.string (dh k))∧jv[k*3+2]? =some (.string (jq k)):=
 match k,hk with
 |0,_=>⟨rfl,rfl,rfl⟩
 |1,_=>⟨rfl,rfl,rfl⟩
 |2,_=>⟨rfl,rfl,rfl⟩
 |3,_=>⟨rfl,rfl,rfl⟩
 |4,_=>⟨rfl,rfl,rfl⟩
 |5,_=>⟨rfl,rfl,rfl⟩
 |6,_=>⟨rfl,rfl,rfl⟩
 |7,_=>⟨rfl,rfl,rfl⟩
 |8,_=>⟨rfl,rfl,rfl⟩
 |9,_=>⟨rfl,rfl,rfl⟩
 |10,_=>⟨rfl,rfl,rfl⟩
 |11,_=>⟨rfl,rfl,rfl⟩
 |12,_=>⟨rfl,rfl,rfl⟩
 |13,_=>⟨rfl,rfl,rfl⟩
 |14,_=>⟨rfl,rfl,rfl⟩
 |15,_=>⟨rfl,rfl,rfl⟩
 |16,_=>⟨rfl,rfl,rfl⟩
 |17,_=>⟨rfl,rfl,rfl⟩
 |18,_=>⟨rfl,rfl,rfl⟩
 |19,_=>⟨rfl,rfl,rfl⟩
 |20,_=>⟨rfl,rfl,rfl⟩
 |21,_=>⟨rfl,rfl,rfl⟩
 |22,_=>⟨rfl,rfl,rfl⟩
 |23,_=>⟨rfl,rfl,rfl⟩
 |24,_=>⟨rfl,rfl,rfl⟩
 |25,_=>⟨rfl,rfl,rfl⟩
 |26,_=>⟨rfl,rfl,rfl⟩
 |n+27,h=>absurd h (by omega)
end Go.Proofs.YtjllbchfojonhaaGreatDoor
namespace Go.Proofs.YtjllbchfojonhaaGreatDoor
open Go.RowKit
theorem makes_none (op:Int) (x y:ByteArray) (C:∀w,Calls Tryz.prog 109 #[.int .i64 op] w fun e w'=>e= .returned (.agg #[.string x,.string y,.string ⟨#[]⟩])∧ai w w' []) (w:World):Calls Tryz.prog 97 #[.int .i64 op] w fun e w'=>e= .returned (.tuple #[.int .i64 0,.bool false])∧ai w w' []:=by
 have C':=ag C;clear C;have hf:=kfield2 x y ⟨#[]⟩;go_enter Tryz.func97,Tryz.ntmps97;go_wp2_with fail
 refine(C'.out _).mono ?_;rintro e w1 ⟨rfl,k1⟩;have K1:=ag k1;clear k1;go_wp2;go_loopw [] (fun wr=>wr=w1.iter ⟨#[]⟩ 0) (fun _=>0)
 case atStart=>rfl
 case round=>
  subst hrel;have hnx:=fun ty=>run_next_end (P:=Tryz.prog) w1 ⟨#[]⟩ 0 ty (by decide);go_wp2;go_ret2
  exact⟨rfl,K1.o.alloc _⟩
theorem makes_some (op:Int) (x y:ByteArray) (c:UInt8) (hc:c.toNat<128) (C:∀w,Calls Tryz.prog 109 #[.int .i64 op] w fun e w'=>e= .returned (.agg #[.string x,.string y,.string ⟨#[c]⟩])∧ai w w' []) (w:World):Calls Tryz.prog 97 #[.int .i64 op] w fun e w'=>e= .returned (.tuple #[.int .i64 (Af c.toNat),.bool true])∧ai w w' []:=by
 have C':=ag C;clear C;have hf:=kfield2 x y ⟨#[c]⟩;have D:=ag (fun w=>typed_any (c.toNat:Int) w);go_enter Tryz.func97,Tryz.ntmps97;go_wp2_with fail
 refine(C'.out _).mono ?_;rintro e w1 ⟨rfl,k1⟩;have K1:=ag k1;clear k1;go_wp2;go_loopw [] (fun wr=>wr=w1.iter ⟨#[c]⟩ 0) (fun _=>0)
 case atStart=>rfl
 case round=>
  subst hrel;have hnx:=fun ty=>run_next_ascii (P:=Tryz.prog) w1 ⟨#[c]⟩ 0 ty Nat.zero_lt_one hc;go_wp2_with fail
  refine(D.o _).mono ?_;rintro e w2 ⟨rfl,rfl⟩;go_wp2;go_ret2
  exact⟨rfl,K1.o.alloc _⟩
end Go.Proofs.YtjllbchfojonhaaGreatDoor
namespace Go.Proofs.YtjllbchfojonhaaGreatDoor
open Go.RowKit Go.Lib
def tcells (s:ByteArray) (k:Nat):List Value:=(s.data.toList.take k).map fun(c:UInt8)=> .int .i64 (Af c.toNat)
theorem tcells_snoc (s:ByteArray) (k:Nat) (h:k<s.size):tcells s (k+1)=tcells s k++[.int .i64 (Af (s[k]'h).toNat)]:=by
 unfold tcells;rw[List.take_succ_eq_append_getElem (by simpa using h),List.map_append];rfl
theorem keeps_iter (w:World) (k:Nat) (s:ByteArray) (pos:Nat):ai w (w.iterAt k s pos) [k]:=
 ⟨rfl, rfl, rfl, by simp [World.iterAt], fun i hi hn => by
  simp at hn
  simp[World.iterAt,Ne.symm hn]⟩
theorem info67:(Tryz.prog.info? 81).map (fun i=>(i.zero,i.size,i.bytes))=some (some (.int .i64 0),1,8):=by kernel_rfl
structure TK (w wr:World) (it:Nat) (s:ByteArray) (k:Nat) (v:Value):Prop where
 keeps:ai w wr []
 iter:wr.heap[it]? =some (.stringIter s k)
 own:wr.ownsRow (it+1) 81 1 v k (tcells s k)
 lo:w.heap.size≤it
theorem own_out {w:World} {B:Nat} {v:Value} {n:Nat} {xs:List Value} {e:TypeId} (h:w.ownsRow (B+1) e 1 v n xs):∀k,v.ownBlock=some k→k∉[B]:=fun k hk hm=>by
 have:=(ig h hk).2;simp at hm;omega
theorem dm {w:World} {base b:Nat} {e:TypeId} {size n:Nat} {v:Value} {xs:List Value} (h:w.ownsRow base e size v n xs) (hb:b≤base):w.ownsRow b e size v n xs:=by
 obtain⟨h0,h1|⟨g,cap,cs,h2,h3,h4⟩⟩:=h
 ·exact⟨h0,.inl h1⟩
 ·exact⟨h0,.inr ⟨g,cap,cs,h2,by omega,h4⟩⟩
theorem TK.step {w wr w':World} {it k:Nat} {s:ByteArray} {v v':Value} (h:TK w wr it s k v) (hlt:k<s.size) (o:Obj)
  (hown:w'.ownsRow (it+1) 81 1 v' (k+1) (tcells s k++[.int .i64 (Af (s[k]'hlt).toNat)])) (hg:((wr.iterAt it s (k+1)).alloc o).grownBy w' v.ownBlock):TK w w' it s (k+1) v':=by
 have k1 : ai w w' [it] := (((h.keeps.trans (keeps_iter wr it s (k + 1))).mono (T := [it]) (fun i hi => .inl (by simpa using hi))).alloc o).grown hg (fun i hi => .inr (by
  have:=(ig h.own hi).2;have:=h.lo
  omega))
 have hne:v.ownBlock≠some it:=fun hv=>by
  have:=(ig h.own hv).2;omega
 refine⟨k1.mono (fun i hi=> .inr (by simp at hi;rw[hi];exact h.lo)), ?_,by rw[tcells_snoc s k hlt];exact hown,h.lo⟩
 have hsz:it<wr.heap.size:=by
  rcases Nat.lt_or_ge it wr.heap.size with h1|h1
  ·exact h1
  ·have:=h.iter;rw[Array.getElem?_eq_none h1]at this;cases this
 have hA:=iterAt_heap wr it s k (k+1) h.iter;rw[hg.block it (by simp[World.iterAt];omega) (fun h1=>hne h1.symm)];rw[←hA];simp[World.alloc,Array.getElem?_push,World.iterAt];omega
theorem takes_any (op:Int) (x y s:ByteArray) (hs:s.size≤100) (ha:∀j (hj:j<s.size),(s[j]'hj).toNat<128) (C:∀w,Calls Tryz.prog 109 #[.int .i64 op] w fun e w'=>e= .returned (.agg #[.string x,.string s,.string y])∧ai w w' []) (w:World):
  Calls Tryz.prog 74 #[.int .i64 op] w fun e w'=>∃v,e= .returned v∧w'.ownsRow w.heap.size 81 1 v s.size (tcells s s.size)∧ai w w' []:=by
 have C':=ag C;have HA:=ag ha;clear C ha;have hf:=kfield1 x s y;obtain⟨i0,hi,hz0,hz1,hz2⟩:=info_parts info67;go_enter Tryz.func74,Tryz.ntmps74;go_wp2_with fail
 refine(C'.out _).mono ?_;rintro e w1 ⟨rfl,k1⟩;have K1:=ag k1;clear k1;have T0:=ag (TK.mk (w:=w1) (wr:=w1.iter s 0) (it:=w1.heap.size) (s:=s) (k:=0) (v:= .slice none 0 0) ((ai.refl w1 []).alloc _) (World.iter_heap w1 s 0) ⟨rfl,.inl ⟨rfl,rfl⟩⟩ (Nat.le_refl _));go_wp2;generalize hit:w1.heap.size=it at*;generalize w1.iter s 0=W0 at*;go_loopw [3] (fun v wr=>∃k:Nat,k≤s.size∧TK w1 wr it s k v) (fun _ wr=>s.size -wr.iterPos it)
 case atStart=>exact⟨0,by omega,T0.o⟩
 case round=>
  obtain⟨k,hk,hT⟩:=hrel;have HT:=ag hT;clear hT;by_cases hlt:k<s.size
  ·have hnx:=fun ty=>run_next_ascii_at (P:=Tryz.prog) wr it s k ty HT.o.iter hlt (HA.o k hlt);have D:=ag (fun w=>typed_any ((s[k]'hlt).toNat:Int) w);have HB:=ag (au HT.o.own (keeps_iter wr it s (k+1)) (own_out HT.o.own));have hsz:=HT.o.lo;go_wp2_with fail
   refine(D.o _).mono ?_;rintro e w2 ⟨rfl,rfl⟩;go_wp2_with (at_builtin;refine wpList_append_own_at _ rfl (.tmp 13) (.tmp 16) 133 rfl (it+1) 81 i0 _ 1 8 Tryz.underlying133 hi hz0 hz1 hz2 rfl (by decide) _ _ _ rfl (HB.o.alloc _) ⟨(wr.iterAt it s (k+1)).heap.size,0,none⟩ 1 1 [.int .i64 (Af (s[k]'hlt).toNat)] rfl rfl ?c1 ?c2 ?c3 ?c4 ?c5 ?_)
   case c1=>exact cell_one_new _ _ _
   case c2=>intro u hu;simp at hu;subst hu;rfl
   case c3=>unfold maxLen;omega
   case c4=>omega
   case c5=>
    have:it<wr.heap.size:=by
     rcases Nat.lt_or_ge it wr.heap.size with h1|h1
     ·exact h1
     ·have h2:=HT.o.iter;rw[Array.getElem?_eq_none h1]at h2;cases h2
    simp[World.iterAt];omega
   intro v' w3 hown hg hnz hat;have T3:=ag (HT.o.step hlt _ hown hg);clear hnz hat hown hg;go_wp2;go_roundw
   case rel=>exact⟨k+1,by omega,T3.o⟩
   case measure=>
    have h1:=HT.o.iter;have h2:=T3.o.iter;simp only[World.iterPos,h1,h2];omega
  ·have hnx:=fun ty=>run_next_end_at (P:=Tryz.prog) wr it s k ty HT.o.iter hlt;go_wp2;go_ret;have hks:k=s.size:=(by omega);have h1:=HT.o.own;have h2:=HT.o.lo;have h3:=K1.o.size;refine⟨_,rfl, ?_, ?_⟩
   ·rw[hks]at h1;exact dm h1 (by omega)
   ·exact K1.o.trans HT.o.keeps
end Go.Proofs.YtjllbchfojonhaaGreatDoor
