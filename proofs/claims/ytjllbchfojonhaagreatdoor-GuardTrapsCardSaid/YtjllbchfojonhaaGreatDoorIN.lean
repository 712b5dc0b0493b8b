/- slices.Insert of one instruction, into an own row; contract. -/
import Derived.Laws.CopyOwn
import Derived.Lib.AppendZerosOnto
import Derived.Lib.Overlaps
import Derived.Test.YtjllbchfojonhaaGreatDoorFlat
import Derived.Shelf.RegionOpenPlain
import Derived.Laws.Externs
import Derived.Laws.NewBlocks
import Derived.Lib.Walk
import Derived.Lib.SliceRun
import Derived.Lib.JoinLaws
set_option linter.unusedVariables false
set_option linter.unusedSimpArgs false
set_option maxRecDepth 100000
set_option maxHeartbeats 200000000
namespace Go.Proofs.YtjllbchfojonhaaGreatDoor
open Go.RowKit
theorem Aw {P:Program} (w:World) (dT sT ty elem:TypeId) (size n g o dLen dCap:Nat) (a:Addr) (sLen sCap:Nat) (cur:Array Value) (t:TypeId) (cs:List Value)
  (hu:P.underlying dT=some (.slice elem)) (hs:(P.info? elem).map (·.size)=some size)
  (hg:w.heap[g]? =some (.cells cur t (0,0))) (hn:n=Nat.min sLen dLen) (hl:cs.length=n*size)
  (hsrc:∀j v,cs[j]? =some v→w.cell? (a.add j)=some v) (hfit:o+cs.length≤cur.size) (h1:∀v∈cs,v.oneCell'=true):
  (Builtin.copy_ #[dT,sT] ty #[.slice (some ⟨g,o,none⟩) dLen dCap,.slice (some a) sLen sCap]).run P w=
   .ok (goInt n) (w.setRow g (cur.toList.take o++cs++cur.toList.drop (o+cs.length)).toArray):=by
 have hl1:=run_loadCells_list (P:=P) w a cs hsrc;have hst:=run_storeCells_at P g o t cs 0 cur w hg (by simpa using hfit) h1;cases hq:P.info? elem with
 |none=>simp[hq]at hs
 |some i=>
  have hi:i.size=size:=(by simpa[hq]using hs);simp[Builtin.copy_,run_underlying hu,Builtin.lenOf,Builtin.firstCells,sizeOf,typeInfo,hq,hi,←hn,←hl,hl1,hst]
end Go.Proofs.YtjllbchfojonhaaGreatDoor
namespace Go.Proofs.YtjllbchfojonhaaGreatDoor
open Go.RowKit Go.Shelf Go.Lib
theorem wp_copy_runQ {P:Program} (w:World) {o:Oper} {a:Act} {K:Act→World→Prop} {Q:Exit→Act→World→Prop} (d s:Operand) (t t':TypeId)
  (ho:o.op= .call {callee:= .builtin .copy,args:=#[d,s],argTypes:=#[t,t']}) (v u:Value) (hd:a.eval d=v) (hs:a.eval s=u) {v':Value} {w':World}
  (hr:(Builtin.copy_ #[t,t'] o.type #[v,u]).run P w= .ok v' w') (h:K (a.put o.dst v') w'):o.wp P a w K Q:=by
 unfold Oper.wp execOp;simp only[ho,resolve,invoke,builtin,Sem.run_bind,Sem.run_pure,Result.andThen_ok,List.map_toArray,List.map_cons,List.map_nil,hd,hs,hr];exact h
theorem Dj {P:Program} (w:World) {ops:Array Oper} {rest:List Oper} {o:Oper} {a:Act} {Q:Exit→Act→World→Prop} (hgd:o.guard=none) (d s:Operand) (t t':TypeId)
  (ho:o.op= .call {callee:= .builtin .copy,args:=#[d,s],argTypes:=#[t,t']}) (v u:Value) (hd:a.eval d=v) (hs:a.eval s=u) {v':Value} {w':World}
  (hr:(Builtin.copy_ #[t,t'] o.type #[v,u]).run P w= .ok v' w') (h:wpList P ops Q rest (a.put o.dst v') w'):wpList P ops Q (o::rest) a w:=
 wpList_plain hgd fun _ hK=>wp_copy_runQ w d s t t' ho v u hd hs hr (hK _ _ h)
theorem step_copy_runQ {P:Program} {ops:Array Oper} {o:Oper} {a:Act} {w:World} {K:Act→World→Prop} {Q:Exit→Act→World→Prop} {E:Prop}
  (hg:o.guard=none) (d x:Operand) (dT sT:TypeId) (hop:o.op=Op.call {callee:=Callee.builtin Builtin.copy,args:=#[d,x],argTypes:=#[dT,sT]})
  (v u:Value) (hd:a.eval d=v) (hx:a.eval x=u) {v':Value} {w':World} (hr:(Builtin.copy_ #[dT,sT] o.type #[v,u]).run P w= .ok v' w') (hK:K (a.put o.dst v') w'):
  if Region.wanted o (yielded ops a.tmps)=true then Oper.wp P o a w K Q else E:=by
 have hw:Region.wanted o (yielded ops a.tmps)=true:=(by simp[Region.wanted,hg]);rw[if_pos hw];unfold Oper.wp;simp[execOp,hop,resolve,invoke,builtin,hd,hx,hr,Result.andThen];exact hK
theorem flat4_take {es:List (List Value)} (h:∀l∈es,l.length=4) (i:Nat):(es.take i).flatten=es.flatten.take (i*4):=by
 induction es generalizing i with
 |nil=>simp
 |cons l es ih=>
  cases i with
  |zero=>simp
  |succ i=>
   have hl:=h l (List.mem_cons_self ..);rw[List.take_succ_cons,List.flatten_cons,List.flatten_cons,ih (fun m hm=>h m (List.mem_cons_of_mem _ hm)),List.take_append,List.take_of_length_le (show l.length≤(i+1)*4 by omega),hl,show(i+1)*4 -4=i*4 by omega]
theorem flat4_drop {es:List (List Value)} (h:∀l∈es,l.length=4) (i:Nat):(es.drop i).flatten=es.flatten.drop (i*4):=by
 induction es generalizing i with
 |nil=>simp
 |cons l es ih=>
  cases i with
  |zero=>simp
  |succ i=>
   have hl:=h l (List.mem_cons_self ..);rw[List.drop_succ_cons,List.flatten_cons,ih (fun m hm=>h m (List.mem_cons_of_mem _ hm)),List.drop_append,List.drop_of_length_le (show l.length≤(i+1)*4 by omega),hl,show(i+1)*4 -4=i*4 by omega,List.nil_append]
def twice (L E x:List Value) (i:Nat):List Value:=
 let R1:=L.take ((i+1)*4)++E.drop (i*4)++L.drop ((i+1)*4+(E.drop (i*4)).length)
 R1.take (i*4)++x++R1.drop (i*4+x.length)
theorem twice_take {L E x:List Value} {n i:Nat} (hE:E.length=n*4) (hx:x.length=4) (hi:i<n) (hL:(n+1)*4≤L.length) (hLE:L.take (n*4)=E):(twice L E x i).take ((n+1)*4)=E.take (i*4)++x++E.drop (i*4):=by
 have hLi:L.take (i*4)=E.take (i*4):=(by rw[←hLE,List.take_take];congr 1;omega);have hd:(E.drop (i*4)).length=n*4 -i*4:=(by rw[List.length_drop,hE]);unfold twice;simp only
 have e1:(L.take ((i+1)*4)++E.drop (i*4)++L.drop ((i+1)*4+(E.drop (i*4)).length)).take (i*4)=E.take (i*4):=by
  rw[List.append_assoc,List.take_append_of_le_length (by rw[List.length_take];omega),List.take_take,show min (i*4) ((i+1)*4)=i*4 by omega,hLi]
 have e2:(L.take ((i+1)*4)++E.drop (i*4)++L.drop ((i+1)*4+(E.drop (i*4)).length)).drop (i*4+x.length)=E.drop (i*4)++L.drop ((i+1)*4+(E.drop (i*4)).length):=by
  rw[List.append_assoc,List.drop_append,List.drop_of_length_le (by rw[List.length_take];omega),List.nil_append,List.length_take,show i*4+x.length -min ((i+1)*4) L.length=0 by omega,List.drop_zero]
 rw[e1,e2];have e3:(E.take (i*4)++x++E.drop (i*4)).length=(n+1)*4:=(by simp[hE,hx];omega);rw[←List.append_assoc (E.take (i*4)++x),List.take_append_of_le_length (by omega),List.take_of_length_le (by omega)]
theorem twice_len {L E x:List Value} {n i:Nat} (hE:E.length=n*4) (hx:x.length=4) (hi:i<n) (hL:(n+1)*4≤L.length):(twice L E x i).length=L.length:=by
 unfold twice;simp[hE,hx];omega
theorem insert_shift (b c n i g:Nat) (cur:Array Value) (E x:List Value) (w:World) (hb:w.heap[b]? =some (.cells cur 43 (0,0))) (hcs:cur.size=c*4) (hE:cur.toList.take (n*4)=E) (hEl:E.length=n*4) (hx:x.length=4) (hG:Blk w g 43 x.toArray) (hgb:g≠b) (hi:i<n) (hroom:n+1≤c) (hc63:c≤9223372036854775807)
  (h1:∀u∈E,u.oneCell'=true) (h1x:∀u∈x,u.oneCell'=true):
  Calls Tryz.prog 46 #[.slice (some ⟨b,0,none⟩) n c,.int .i64 (i:Nat),.slice (some ⟨g,0,none⟩) 1 1] w fun e w'=>
   e= .returned (.slice (some ⟨b,0,none⟩) (n+1) c)∧w'.heap[b]? =some (.cells (twice cur.toList E x i).toArray 43 (0,0))∧ai w w' [b]:=by
 have hz2:¬((i:Int)=(n:Int)):=(by omega);have hw1:IntKind.i64.wrap ((i:Int)+1)=((i+1:Nat):Int):=(by rw[IntKind.wrap_i64];omega);have hw2:IntKind.i64.wrap ((n:Int)+1)=((n+1:Nat):Int):=(by rw[IntKind.wrap_i64];omega);have hin:(i:Int)≤(n:Int):=(by omega);have hic:i≤c:=(by omega);have hcn:¬(c:Int)<((n+1:Nat):Int):=(by omega);have mixed:Tryz.prog.follows .mixedOrders=true:=(by kernel_rfl);have hb0:(0:Int)≤(i:Int)+1:=(by omega);have hb2:¬(c=i+1):=(by omega);have hb4:¬(c=i):=(by omega);have hb5:(i:Int)≤(n:Int)+1:=(by omega);obtain⟨L,hL⟩:∃L,cur.toList=L:=⟨_,rfl⟩;have hLl:L.length=c*4:=(by rw[←hL,Array.length_toList];exact hcs);have hBk:Blk w b 43 cur:=hb;have hsz:(Tryz.prog.info? 43).map (·.size)=some 4:=(by kernel_rfl);have hdl:(E.drop (i*4)).length=(n -i)*4:=by rw[List.length_drop,hEl];omega
 have hov:∀lb cb,(callFunc 75 #[.slice (some ⟨g,0,none⟩) 1 1,.slice (some ⟨b,(i+1)*4,none⟩) lb cb]).run Tryz.prog w= .ok (.value (.bool false)) w:=fun lb cb=>by
  rw [run_callFunc_extern Tryz.func75 (by kernel_rfl) (by kernel_rfl) (by kernel_rfl) (e := Extern.SlicesOverlaps.overlaps #[32, 32] #[4]) (by kernel_rfl),
   Lib.run_overlaps_apart w 32 4 43 Tryz.underlying32 4 (by intro w;kernel_rfl) ⟨g,0,none⟩ ⟨b,(i+1)*4,none⟩ 1 1 lb cb hgb 43 43 x.toArray.size cur.size (by simp[World.shape?,show w.heap[g]? =_ from hG]) (by simp[World.shape?,hb]) (by omega) (hG.frozen 0) (hG.frozen _)]
  rfl
 obtain⟨R1,hR1⟩:∃R1,R1=L.take ((i+1)*4)++E.drop (i*4)++L.drop ((i+1)*4+(E.drop (i*4)).length):=⟨_,rfl⟩;obtain⟨R2,hR2⟩:∃R2,R2=R1.take (i*4)++x++R1.drop (i*4+x.length):=⟨_,rfl⟩;have hR1l:R1.length=c*4:=(by rw[hR1];simp[hLl,hEl];omega);obtain⟨W1,hW1⟩:∃W1,W1=w.drew.setRow b R1.toArray:=⟨_,rfl⟩
 have hcp1:∀ty dc sc,(Builtin.copy_ #[32,32] ty #[.slice (some ⟨b,(i+1)*4,none⟩) (n -i) dc,.slice (some ⟨b,i*4,none⟩) (n+1 -i) sc]).run Tryz.prog w.drew= .ok (goInt (n -i:Nat)) W1:=fun ty dc sc=>by
  rw[hW1,hR1,←hL]
  exact Aw w.drew 32 32 ty 43 4 (n - i) b ((i + 1) * 4) (n - i) dc ⟨b, i * 4, none⟩ (n + 1 - i) sc cur 43 (E.drop (i * 4)) Tryz.underlying32 hsz hb (by simp only [Nat.min_def]; split <;> omega) hdl (fun j v hj => by
   rw[List.getElem?_drop,←hE,List.getElem?_take]at hj;split at hj
   ·rw[add_plain];exact(hBk.cell _).trans (by rw[←Array.getElem?_toList];exact hj)
   ·cases hj) (by rw[hdl,hcs];omega) (fun u hu=>h1 u (List.mem_of_mem_drop hu))
 have hB1:W1.heap[b]? =some (.cells R1.toArray 43 (0,0)):=(by rw[hW1];exact setRow_heap w.drew b cur _ 43 _ hb);have hG1:Blk W1 g 43 x.toArray:=by rw[hW1];exact(setRow_other w.drew b g _ (by omega)).trans hG
 have hcp2:∀ty dc,(Builtin.copy_ #[32,32] ty #[.slice (some ⟨b,i*4,none⟩) (n+1 -i) dc,.slice (some ⟨g,0,none⟩) 1 1]).run Tryz.prog W1= .ok (goInt 1) (W1.setRow b R2.toArray):=fun ty dc=>by
  rw[hR2];exact Aw W1 32 32 ty 43 4 1 b (i*4) (n+1 -i) dc ⟨g,0,none⟩ 1 1 R1.toArray 43 x Tryz.underlying32 hsz hB1 (by simp only[Nat.min_def];split<;>omega) (by rw[hx]) (fun j v hj=>by rw[add_plain,Nat.zero_add];exact(hG1.cell j).trans (by rw[List.getElem?_toArray];exact hj)) (by rw[hx];simp[hR1l];omega) h1x
 have hfin:(W1.setRow b R2.toArray).heap[b]? =some (.cells R2.toArray 43 (0,0)):=setRow_heap W1 b _ _ 43 _ hB1
 have hkp : ai w (W1.setRow b R2.toArray) [b] := ⟨by rw [hW1]; rfl, by rw [hW1]; rfl, by rw [hW1]; rfl, by rw [hW1]; simp [World.setRow], fun k hk hkb => by
  have hne:k≠b:=fun e=>hkb (by rw[e];simp)
  rw[setRow_other W1 b k _ (by omega),hW1,setRow_other w.drew b k _ (by omega)];rfl⟩
 have hfin2:(W1.setRow b R2.toArray).heap[b]? =some (.cells (twice cur.toList E x i).toArray 43 (0,0)):=(by rw[hL,show twice L E x i=R2 by rw[hR2,hR1];rfl];exact hfin);clear hB1 hG1 hW1 hR1 hR2 hb hBk hG hE;go_enter Tryz.func46,Tryz.ntmps46;go_wp2_with (simp only[hov])
 go_region_law_o (refine step_copy_runQ rfl _ _ 32 32 rfl _ _ (by simp[Act.eval,Act.put]) (by simp[Act.eval,Act.put]) (hcp1 _ _ _) ?_)
 go_wp2_with (at_builtin;refine Dj _ rfl _ _ 32 32 rfl _ _ rfl rfl (hcp2 _ _) ?_)
 go_ret;exact⟨rfl,hfin2,hkp⟩
def fresh (Z E x:List Value) (i:Nat):List Value:=
 let R1:=Z.take (i*4)++x++Z.drop (i*4+x.length)
 R1.take ((i+1)*4)++E.drop (i*4)++R1.drop ((i+1)*4+(E.drop (i*4)).length)
theorem fresh_take {Z E x:List Value} {n i:Nat} (hE:E.length=n*4) (hx:x.length=4) (hi:i<n) (hL:(n+1)*4≤Z.length) (hZ:Z.take (i*4)=E.take (i*4)):(fresh Z E x i).take ((n+1)*4)=E.take (i*4)++x++E.drop (i*4):=by
 have hd:(E.drop (i*4)).length=n*4 -i*4:=(by rw[List.length_drop,hE]);unfold fresh;simp only
 have e1:(Z.take (i*4)++x++Z.drop (i*4+x.length)).take ((i+1)*4)=E.take (i*4)++x:=by
  rw[List.take_append_of_le_length (by simp[hx];omega),hZ,List.take_of_length_le (by simp[hx,hE];omega)]
 rw[e1];rw[List.take_append_of_le_length (by simp[hx,hE];omega),List.take_of_length_le (by simp[hx,hE];omega)]
theorem fresh_len {Z E x:List Value} {n i:Nat} (hE:E.length=n*4) (hx:x.length=4) (hi:i<n) (hL:(n+1)*4≤Z.length):(fresh Z E x i).length=Z.length:=by
 unfold fresh;simp[hE,hx];omega
theorem info43:(Tryz.prog.info? 43).map (fun i=>(i.zero,i.size,i.bytes))=some (some (.agg #[.int .i64 0,.int .i64 0,.slice none 0 0,.int .i64 0]),4,48):=by kernel_rfl
theorem zeros4 (k:Nat):(Builtin.zeroCells (Value.agg #[.int .i64 0,.int .i64 0,.slice none 0 0,.int .i64 0]).cells k).size=k*4:=by
 simp[Builtin.zeroCells,Value.cells]
theorem insert_grow (b c n i g:Nat) (cur:Array Value) (E x:List Value) (w:World) (hb:w.heap[b]? =some (.cells cur 43 (0,0))) (hcs:cur.size=c*4) (hE:cur.toList.take (n*4)=E) (hEl:E.length=n*4) (hx:x.length=4) (hG:Blk w g 43 x.toArray) (hgb:g≠b) (hi:i<n) (hnc:n≤c) (hroom:c<n+1) (hn:n≤100000)
  (h1:∀u∈E,u.oneCell'=true) (h1x:∀u∈x,u.oneCell'=true):
  Calls Tryz.prog 46 #[.slice (some ⟨b,0,none⟩) n c,.int .i64 (i:Nat),.slice (some ⟨g,0,none⟩) 1 1] w fun e w'=>∃(G:Nat) (Z:List Value),
   e= .returned (.slice (some ⟨w.heap.size,0,none⟩) (n+1) G)∧n+1≤G∧G≤maxLen∧w'.heap[w.heap.size]? =some (.cells (fresh Z E x i).toArray 43 (0,0))∧Z.length=G*4∧Z.take (i*4)=E.take (i*4)∧ai w w' []:=by
 have hz2:¬((i:Int)=(n:Int)):=(by omega);have hz3:(c:Int)<(n:Int)+1:=(by omega);have hw1:IntKind.i64.wrap ((i:Int)+1)=((i+1:Nat):Int):=(by rw[IntKind.wrap_i64];omega);have hw2:IntKind.i64.wrap ((n:Int)+1)=((n+1:Nat):Int):=(by rw[IntKind.wrap_i64];omega);have hin:(i:Int)≤(n:Int):=(by omega);have hic:i≤c:=(by omega);have mixed:Tryz.prog.follows .mixedOrders=true:=(by kernel_rfl);have hb0:(0:Int)≤(i:Int)+1:=(by omega);have hb3:(i:Int)≤(n:Int)+1:=(by omega);have hci:¬(c=i):=(by omega);have hkk:(n:Int)+1 -(i:Int)=((n+1 -i:Nat):Int):=(by omega);have hik:i+(n+1 -i)=n+1:=(by omega);have hBk:Blk w b 43 cur:=hb;have hsz:(Tryz.prog.info? 43).map (·.size)=some 4:=(by kernel_rfl);obtain⟨i0,hi0,he0⟩:=Option.map_eq_some_iff.1 info43;simp only[Prod.mk.injEq]at he0;obtain⟨hz0,hzs,hzb⟩:=he0
 have hcell:∀j v,E[j]? =some v→w.cell? ⟨b,j,none⟩=some v:=fun j v hj=>by
  rw[←hE,List.getElem?_take]at hj;split at hj
  ·exact(hBk.cell _).trans (by rw[←Array.getElem?_toList];exact hj)
  ·cases hj
 have hold:(Builtin.firstCells i0.size i (.slice (some ⟨b,0,none⟩) i c)).run Tryz.prog w.drew= .ok (E.take (i*4)).toArray w.drew:=by
  rw[hzs]
  exact run_firstCells_some w.drew 4 i ⟨b, 0, none⟩ i c (E.take (i * 4)) (by rw [List.length_take]; omega) (fun j v hj => by
   rw[List.getElem?_take]at hj;split at hj
   ·rw[add_plain,Nat.zero_add];exact hcell j v hj
   ·cases hj)
 obtain⟨G,hGG⟩:∃G,G=grownCap w (n+1) c 43:=⟨_,rfl⟩;have hGn:n+1≤G:=(by rw[hGG];exact grownCap_ge w _ _ _);have hGm:G≤maxLen:=(by rw[hGG];exact grownCap_le_maxLen w (n+1) c 43 (by unfold maxLen;omega));obtain⟨Z,hZ⟩:∃Z:List Value,Z=((E.take (i*4)).toArray++Builtin.zeroCells (Value.agg #[.int .i64 0,.int .i64 0,.slice none 0 0,.int .i64 0]).cells (n+1 -i)++Builtin.zeroCells (Value.agg #[.int .i64 0,.int .i64 0,.slice none 0 0,.int .i64 0]).cells (G -(n+1))).toList:=⟨_,rfl⟩
 have hZl:Z.length=G*4:=by
  rw[hZ,Array.length_toList,Array.size_append,Array.size_append,zeros4,zeros4];simp[hEl];omega
 have hZt:Z.take (i*4)=E.take (i*4):=by
  rw[hZ];simp only[Array.toList_append];rw[List.append_assoc,List.take_append_of_le_length (by simp[hEl];omega),List.take_of_length_le (by rw[List.length_take];omega)]
 obtain⟨W1,hW1⟩:∃W1,W1=w.drew.alloc (.cells Z.toArray 43):=⟨_,rfl⟩
 have hrz:∀ty,(Builtin.append_ #[32,3] ty #[.slice (some ⟨b,0,none⟩) i c,.int .i64 ((n+1 -i:Nat):Int)]).run Tryz.prog w= .ok (.slice (some ⟨w.heap.size,0,none⟩) (n+1) G) W1:=fun ty=>by
  have h:=Lib.run_append_grow_zeros w 32 3 ty 43 i0 _ .i64 .i64 Tryz.underlying32 Tryz.underlying3 hi0 hz0 (some ⟨b,0,none⟩) i c (E.take (i*4)) hold (n+1 -i) (by omega) (by omega) (by omega) (by omega) (by rw[hzb];omega) (by rw[hzb,hik];exact growslice_fits hroom (by omega));rw[hik,←hGG]at h;rw[hW1,hZ];exact h
 have hlt:b<w.heap.size:=hBk.lt;have hgt:g<w.heap.size:=hG.lt;have hkw:ai w W1 []:=(by rw[hW1];exact((ai.refl w []).drew).alloc _);have hH1:W1.heap[w.heap.size]? =some (.cells Z.toArray 43 (0,0)):=(by rw[hW1];exact Blk.new w.drew 43 Z.toArray);have hb1:Blk W1 b 43 cur:=hBk.keep hkw (by simp);have hg1:Blk W1 g 43 x.toArray:=hG.keep hkw (by simp);obtain⟨H,hH⟩:∃H,w.heap.size=H:=⟨_,rfl⟩;rw[hH]at hrz hH1 hlt hgt;obtain⟨R1,hR1⟩:∃R1,R1=Z.take (i*4)++x++Z.drop (i*4+x.length):=⟨_,rfl⟩;have hR1l:R1.length=G*4:=(by rw[hR1];simp[hZl,hx];omega);obtain⟨R2,hR2⟩:∃R2,R2=R1.take ((i+1)*4)++E.drop (i*4)++R1.drop ((i+1)*4+(E.drop (i*4)).length):=⟨_,rfl⟩;have hdl:(E.drop (i*4)).length=(n -i)*4:=(by rw[List.length_drop,hEl];omega);obtain⟨W2,hW2⟩:∃W2,W2=W1.setRow H R1.toArray:=⟨_,rfl⟩;obtain⟨W3,hW3⟩:∃W3,W3=W2.drew.setRow H R2.toArray:=⟨_,rfl⟩
 have hcpA:∀ty dc,(Builtin.copy_ #[32,32] ty #[.slice (some ⟨H,i*4,none⟩) (n+1 -i) dc,.slice (some ⟨g,0,none⟩) 1 1]).run Tryz.prog W1= .ok (goInt 1) W2:=fun ty dc=>by
  rw[hW2,hR1];exact Aw W1 32 32 ty 43 4 1 H (i*4) (n+1 -i) dc ⟨g,0,none⟩ 1 1 Z.toArray 43 x Tryz.underlying32 hsz hH1 (by simp only[Nat.min_def];split<;>omega) (by rw[hx]) (fun j v hj=>by rw[add_plain,Nat.zero_add];exact(hg1.cell j).trans (by rw[List.getElem?_toArray];exact hj)) (by rw[hx];simp[hZl];omega) h1x
 have hH2:W2.heap[H]? =some (.cells R1.toArray 43 (0,0)):=(by rw[hW2];exact setRow_heap W1 H _ _ 43 _ hH1);have hb2:Blk W2 b 43 cur:=by rw[hW2];exact(setRow_other W1 H b _ (by omega)).trans hb1
 have hcpB:∀ty dc sc,(Builtin.copy_ #[32,32] ty #[.slice (some ⟨H,(i+1)*4,none⟩) (n -i) dc,.slice (some ⟨b,i*4,none⟩) (n -i) sc]).run Tryz.prog W2.drew= .ok (goInt (n -i:Nat)) W3:=fun ty dc sc=>by
  rw[hW3,hR2]
  exact Aw W2.drew 32 32 ty 43 4 (n - i) H ((i + 1) * 4) (n - i) dc ⟨b, i * 4, none⟩ (n - i) sc R1.toArray 43 (E.drop (i * 4)) Tryz.underlying32 hsz hH2 (by simp) hdl (fun j v hj => by
   rw[List.getElem?_drop,←hE,List.getElem?_take]at hj;split at hj
   ·rw[add_plain];exact(hb2.cell _).trans (by rw[←Array.getElem?_toList];exact hj)
   ·cases hj) (by rw[hdl];simp[hR1l];omega) (fun u hu=>h1 u (List.mem_of_mem_drop hu))
 have hH3:W3.heap[H]? =some (.cells (fresh Z E x i).toArray 43 (0,0)):=by rw[hW3,show fresh Z E x i=R2 by rw[hR2,hR1];rfl];exact setRow_heap W2.drew H _ _ 43 _ hH2
 have hkp : ai w W3 [] := ⟨by rw [hW3, hW2]; exact hkw.os, by rw [hW3, hW2]; exact hkw.tape, by rw [hW3, hW2]; exact hkw.output, by rw [hW3, hW2]; simp [World.setRow]; exact hkw.size, fun k hk hkb => by
  rw[hH]at hk;rw[hW3,setRow_other W2.drew H k _ (by omega)];show W2.heap[k]? =_;rw[hW2,setRow_other W1 H k _ (by omega)]
  exact hkw.block k (by omega) (by simp)⟩
 have hGi:¬(G=i):=(by omega);have hGim:¬(G=i+1):=(by omega);have hG63:G≤9223372036854775807:=(by unfold maxLen at hGm;omega);clear hGG hZ hold hW1 hW2 hW3 hR1 hR2 hH1 hH2 hb1 hb2 hg1 hb hBk hG hE hcell hkw;go_enter Tryz.func46,Tryz.ntmps46
 go_wp2_with (first
  |(at_builtin;refine Lib.wpList_append_run _ rfl _ _ _ _ rfl _ _ rfl rfl _ _ (hrz _) ?_)
  |(at_builtin;refine Dj _ rfl _ _ 32 32 rfl _ _ rfl rfl (hcpA _ _) ?_))
 go_region_law_o (refine step_copy_runQ rfl _ _ 32 32 rfl _ _ (by simp[Act.eval,Act.put]) (by simp[Act.eval,Act.put]) (hcpB _ _ _) ?_)
 go_wp2;go_ret;exact⟨G,Z,by rw[hH];rfl,hGn,hGm,by rw[hH];exact hH3,hZl,hZt,hkp⟩
theorem insert_any (base:Nat) (v:Value) (n i g:Nat) (es:List (List Value)) (x:List Value) (w:World) (hbase:base≤w.heap.size) (ho:w.ownsRow base 43 4 v n es.flatten) (hes:∀l∈es,l.length=4) (hx:x.length=4) (hG:Blk w g 43 x.toArray) (hne:v.ownBlock≠some g) (hi:i<n) (hn:n≤100000)
  (h1:∀l∈es,∀u∈l,u.oneCell'=true) (h1x:∀u∈x,u.oneCell'=true):
  Calls Tryz.prog 46 #[v,.int .i64 (i:Nat),.slice (some ⟨g,0,none⟩) 1 1] w fun e w'=>∃v',e= .returned v'∧w'.ownsRow base 43 4 v' (n+1) ((es.take i++x::es.drop i).flatten)∧(v'.ownBlock=v.ownBlock∨∃z,v'.ownBlock=some z∧w.heap.size≤z)∧∀b,v.ownBlock=some b→ai w w' [b]:=by
 obtain⟨hEl,⟨_,h0⟩|⟨b,c,cur,rfl,hb,hg,hnc,hcm,hcs,hE⟩⟩:=ho
 ·omega
 have hgb:g≠b:=fun e=>hne (by rw[e];rfl);have h1E:∀u∈es.flatten,u.oneCell'=true:=fun u hu=>by obtain⟨l,hl,hu⟩:=List.mem_flatten.1 hu;exact h1 l hl u hu
 have hfin:(es.take i++x::es.drop i).flatten=es.flatten.take (i*4)++x++es.flatten.drop (i*4):=by
  rw[List.flatten_append,List.flatten_cons,flat4_take hes,flat4_drop hes,List.append_assoc]
 have hfl:(es.flatten.take (i*4)++x++es.flatten.drop (i*4)).length=(n+1)*4:=(by simp[hEl,hx];omega);rw[hfin];by_cases hroom:n+1≤c
 ·have hL:(n+1)*4≤cur.toList.length:=(by rw[Array.length_toList,hcs];omega);refine(insert_shift b c n i g cur es.flatten x w hg hcs hE hEl hx hG hgb hi hroom (by have h9:=hcm;unfold maxLen at h9;omega) h1E h1x).mono ?_;rintro e w' ⟨rfl,hw,hk⟩;refine⟨_,rfl,⟨hfl,.inr ⟨b,c,_,rfl,hb,hw,hroom,hcm, ?_, ?_⟩⟩,.inl rfl,fun q hq=>by have e:b=q:=Option.some.inj hq;rw[←e];exact hk⟩
  ·rw[List.size_toArray,twice_len hEl hx hi hL,Array.length_toList,hcs]
  ·show(twice cur.toList es.flatten x i).take ((n+1)*4)=_;exact twice_take hEl hx hi hL hE
 ·refine(insert_grow b c n i g cur es.flatten x w hg hcs hE hEl hx hG hgb hi hnc (by omega) hn h1E h1x).mono ?_;rintro e w' ⟨G,Z,rfl,hGn,hGm,hw,hZl,hZt,hk⟩;have hL:(n+1)*4≤Z.length:=(by rw[hZl];omega);refine⟨_,rfl,⟨hfl,.inr ⟨w.heap.size,G,_,rfl,hbase,hw,hGn,hGm, ?_, ?_⟩⟩,.inr ⟨_,rfl,Nat.le_refl _⟩,fun q _=>hk.mono (fun k hk=>by cases hk)⟩
  ·rw[List.size_toArray,fresh_len hEl hx hi hL,hZl]
  ·show(fresh Z es.flatten x i).take ((n+1)*4)=_;exact fresh_take hEl hx hi hL hZt
end Go.Proofs.YtjllbchfojonhaaGreatDoor
