/- guard.Make: what the loop over the places keeps (plain facts of memory). -/
import Derived.Test.YtjllbchfojonhaaGreatDoorCQ1
import Derived.Test.YtjllbchfojonhaaGreatDoorMG
import Derived.Test.YtjllbchfojonhaaGreatDoorHN
import Derived.RangeFuncNested
import Derived.RangeFuncBound
import Derived.RangeFuncCalls
import Derived.RangeFuncLeaves
import Derived.Shelf.Abstract
import Derived.Shelf.RegionOpen
import Derived.OwnWalkIn
import Derived.TacticsInMore
import Derived.LoopNIn
import Derived.LoopIn
import Derived.OrdersIn
import Derived.Deep.RegionHeld
import Derived.Test.YtjllbchfojonhaaGreatDoorIN
set_option linter.unusedVariables false
set_option linter.unusedSimpArgs false
set_option maxRecDepth 100000
set_option maxHeartbeats 200000000
namespace Go.Proofs.YtjllbchfojonhaaGreatDoor
open Go.RowKit
section
variable {W0 W W':World} {L4 tg:Nat} {bv bv':Value} {th:List Bool} {f:ax} {zs:List df}
end
end Go.Proofs.YtjllbchfojonhaaGreatDoor
namespace Go.Proofs.YtjllbchfojonhaaGreatDoor
open Go.RowKit Go.Shelf
attribute [local go_sem] Oper.semAt_some
def bwU {n:Nat} (k:Nat) (h:k≤n):List (Fin n):=(List.finRange n).reverse.take k
theorem bwU_len {n k:Nat} (h:k≤n):(bwU k h).length=k:=by simp[bwU];omega
theorem bwU_snoc {n m:Nat} (h:m<n) (h1:n -(m+1)≤n) (h2:n -m≤n):bwU (n -m) h2=bwU (n -(m+1)) h1++[⟨m,h⟩]:=by
 unfold bwU;have e:n -m=n -(m+1)+1:=(by omega);rw[e,List.take_add_one]
 congr 1
 rw[List.getElem?_reverse (by simp;omega),List.getElem?_eq_getElem (by simp;omega)];simp;omega
theorem bwU_all {n:Nat}:bwU n (Nat.le_refl n)=(List.finRange n).reverse:=by unfold bwU;rw[List.take_of_length_le (by simp)]
def BwK (n0:Nat) (W W':World):Prop:=Below n0 W W'∧TyK 51 W W'
theorem BwK.refl (n0:Nat) (W:World):BwK n0 W W:=⟨Below.refl _ _,TyK.refl _ _⟩
theorem BwK.trans {n0:Nat} {A B C:World} (h:BwK n0 A B) (k:BwK n0 B C):BwK n0 A C:=⟨h.1.trans k.1,h.2.trans k.2⟩
theorem tyK_put {T:TypeId} {W:World} {l:Nat} {o o':Obj} (h:W.heap[l]? =some o) (ho:o.isCells=false):TyK T W (W.putObj l o'):=fun b cs hb=>by
 refine(World.putObj_heap_other (fun e=> ?_)).trans hb;subst e;rw[show W.heap[b]? =_ from hb]at h;cases h;cases ho
theorem bwK_b {n0:Nat} {w:World} (hn:n0≤w.heap.size) (W:World) (l:Nat) (o o':Obj) (hl:w.heap.size≤l) (h:W.heap[l]? =some o) (ho:o.isCells=false) (hw:o.isWalk=false):BwK n0 W (W.putObj l o'):=⟨belowK_b hn W l o o' hl h ho hw,tyK_put h ho⟩
def bwE (zs:List (Nat×Nat)) (x:Fin zs.length):Array Value:=#[.int .i64 (x.1:Int),.agg #[.int .i64 (zs[x.1]!.1:Int),.int .i64 (zs[x.1]!.2:Int)]]
theorem back72_in (F:Fence) (n:Nat) (h72:F.fn 72) (hro:F.round=none) (hn:1≤n) (l Bs n0 b off cap:Nat) (zs:List (Nat×Nat)) (hz:zs.length≤1000000) (hb:b<n0) (J Jx:List (Fin zs.length)→World→Prop)
  (hY : ∀ pre x W, J pre W → pre.length < zs.length → YieldAt F (n - 1) Tryz.prog l (bwE zs x) W fun e W' =>
   (e= .returned (.bool true)∧J (pre++[x]) W'∧BwK n0 W W')∨(e= .returned (.bool false)∧Jx (pre++[x]) W'))
  (W:World) (hBs:Blk W Bs 51 #[.slice (some ⟨b,off,none⟩) zs.length cap]) (hc:∀j,j<zs.length→W.cell? ⟨b,off+j*2,none⟩=some (.int .i64 (zs[j]!.1:Int))∧W.cell? ⟨b,off+j*2+1,none⟩=some (.int .i64 (zs[j]!.2:Int))) (h0:J [] W):
  CallsIn F n Tryz.prog 72 #[.func (.yield l) #[] #[],.pointer (some ⟨Bs,0,none⟩)] W fun e W'=>(∃v,e= .returned v)∧
   ((∃ys,ys=(List.finRange zs.length).reverse∧J ys W')∨(∃pre,(∃k h,pre=bwU (n:=zs.length) k h)∧Jx pre W')):=by
 refine callsIn_of_wp Tryz.func72 rfl h72 ?_ hro;have cB:=hBs.cell 0;simp at cB;simp only[Tryz.ntmps72,List.size_toArray,List.length_cons,List.length_nil,Nat.reduceAdd,Nat.reduceSub,Array.replicate_succ,Array.replicate_zero,List.push_toArray,List.append_toArray,List.nil_append,List.cons_append];gi_wp2
 gi_loopw [3] (fun i wr=>∃(m:Nat) (hm:m≤zs.length),i= .int .i64 ((m:Int) -1)∧J (bwU (zs.length -m) (by omega)) wr∧BwK n0 W wr)
  (fun i _=>(intOf i+1).toNat)
 case atStart=>exact⟨zs.length,Nat.le_refl _,by go_num,by rw[show bwU (zs.length -zs.length) _=([]:List (Fin zs.length)) by unfold bwU;simp];exact h0,BwK.refl _ _⟩
 case round=>
  obtain⟨m,hm,rfl,hJs,hnx⟩:=hrel;cases m with
  |zero=>
   gi_wp2;go_end0
   exact⟨⟨_,rfl⟩,.inl ⟨_,rfl,by rw[←bwU_all];exact hJs⟩⟩
  |succ m=>
   rw[show((m+1:Nat):Int) -1=(m:Int) by omega];have hlt:m<zs.length:=hm;obtain⟨fn,tmps,assign,body,hy,hR⟩:=hY _ ⟨m,hlt⟩ wr hJs (by rw[bwU_len];omega);unfold bwE at hy;dsimp only at hy;have hB2:=hnx.2 _ _ hBs;have cB2:=hB2.cell 0;simp at cB2;have c1:=(hnx.1.cell (p:=⟨b,off+m*2,none⟩) hb).trans (hc m hlt).1;have c2:=(hnx.1.cell (p:=⟨b,off+m*2+1,none⟩) hb).trans (hc m hlt).2;have hmz:(m:Int)<(zs.length:Int):=(by omega);generalize(zs[m]!.1:Int)=p1 at*;generalize(zs[m]!.2:Int)=p2 at*;gi_wp2;refine hR.mono ?_;rintro e W3 (⟨rfl,hJ3,hk3⟩|⟨rfl,hJx3⟩)
   ·gi_wp2;go_roundw
    case rel=>exact⟨m,by omega,by go_num,by rw[bwU_snoc hlt (by omega) (by omega)];exact hJ3,hnx.trans hk3⟩
    case measure=>simp[intOf]
   ·gi_wp2;refine bodyPost_ret (results_none rfl _ _ _) rfl ?_;exact⟨⟨_,rfl⟩,.inr ⟨_,⟨zs.length -m,by omega,(bwU_snoc hlt (by omega) (by omega)).symm⟩,hJx3⟩⟩
theorem back72_nil (F:Fence) (n:Nat) (h72:F.fn 72) (hro:F.round=none) (l Bs:Nat) (a:Option Addr) (cap:Nat) (J:List (Fin 0)→World→Prop) (W:World) (hBs:Blk W Bs 51 #[.slice a 0 cap]) (h0:J [] W):
  CallsIn F n Tryz.prog 72 #[.func (.yield l) #[] #[],.pointer (some ⟨Bs,0,none⟩)] W fun e W'=>(∃v,e= .returned v)∧J [] W':=by
 refine callsIn_of_wp Tryz.func72 rfl h72 ?_ hro;have cB:=hBs.cell 0;simp at cB;simp only[Tryz.ntmps72,List.size_toArray,List.length_cons,List.length_nil,Nat.reduceAdd,Nat.reduceSub,Array.replicate_succ,Array.replicate_zero,List.push_toArray,List.append_toArray,List.nil_append,List.cons_append];gi_wp2;gi_loopw [3] (fun i wr=>i= .int .i64 (-1)∧J [] wr) (fun _ _=>0)
 case atStart=>exact⟨by go_num,h0⟩
 case round=>
  obtain⟨rfl,hJs⟩:=hrel;gi_wp2;go_end0
  exact⟨⟨_,rfl⟩,hJs⟩
theorem back_stops (F:Fence) (n:Nat) (h72:F.fn 72) (hro:F.round=none) (hn:1≤n) (Bs n0:Nat) (sv:Value) (zs:List (Nat×Nat)) (hz:zs.length≤1000000) (w w1:World) (hr:Row w1 2 sv (zs.map prC)) (hw1:w1.heap.size=n0) (hbw:Below n0 w1 w) (hBs:Blk w Bs 51 #[sv]):
  SeqStopsK F n Tryz.prog 72 #[.pointer (some ⟨Bs,0,none⟩)] (bwE zs) (BwK n0) (fun ys=>ys=(List.finRange zs.length).reverse) (fun _=>True) zs.length w:=fun l J Jx W hW _ _ hY h0=>by
 obtain⟨a,c,e,hl,hm,hc⟩:=hr.open_;have hB':Blk W Bs 51 #[sv]:=(hW.block Bs hBs.lt).trans hBs;rw[e]at hB';rcases Nat.eq_zero_or_pos zs.length with h|h
 ·obtain rfl:zs=[]:=List.eq_nil_of_length_eq_zero h;exact(back72_nil F n h72 hro l Bs a c J W hB' h0).mono fun e W' ⟨he,hj⟩=>⟨he,.inl ⟨_,rfl,hj⟩⟩
 ·obtain⟨b,off,rfl,-,-⟩:=hc 0 h;have hb:b<n0:=(by obtain⟨b',o',e',hb',_⟩:=hc 0 h;cases e';omega);have hk:Below n0 w1 W:=hbw.trans (hW.mono (by have:=hbw.size;omega));refine(back72_in F n h72 hro hn l Bs n0 b off c zs hz hb J Jx hY W hB' (fun j hj=> ?_) h0).mono ?_
  ·obtain⟨b',o',e',hb',hcj⟩:=hc j hj;cases e';have h1:=hcj 0 (.int .i64 (zs[j]!.1:Int)) rfl;have h2:=hcj 1 (.int .i64 (zs[j]!.2:Int)) rfl;exact⟨(hk.cell (p:=⟨b,off+j*2,none⟩) hb).trans h1,(hk.cell (p:=⟨b,off+j*2+1,none⟩) hb).trans h2⟩
  ·rintro e W' ⟨he,⟨ys,rfl,hj⟩|⟨pre,_,hj⟩⟩
   ·exact⟨he,.inl ⟨_,rfl,hj⟩⟩
   ·exact⟨he,.inr ⟨_,trivial,hj⟩⟩
theorem back44_any (a:Option Addr) (n c:Nat) (w:World):Calls Tryz.prog 44 #[.slice a n c] w fun e w'=>e= .returned (.func (.func 72) #[] #[.pointer (some ⟨w.heap.size,0,none⟩)])∧w'=w.alloc (.cells #[.slice a n c] 51):=by
 go_enter Tryz.func44,Tryz.ntmps44;go_wp2;go_ret;exact⟨rfl,rfl⟩
end Go.Proofs.YtjllbchfojonhaaGreatDoor
namespace Go.Proofs.YtjllbchfojonhaaGreatDoor
open Go.RowKit Go.Shelf
def plainOp (o:Oper):Bool:=match o.op with | .defer _=>false|_=>true
theorem plain_op {o:Oper} (h:plainOp o=true):∀c,o.op≠ .defer c:=fun c e=>by unfold plainOp at h;rw[e]at h;cases h
theorem upon_in {P:Program} {l n:Nat} {o:Oper} {a:Act} {K:Act→World→Prop} {Q:Exit→Act→World→Prop} {r:Result Next} (h:o.upon P a K Q r):o.uponIn (Fence.wide.inRound l) n P a K Q r:=by
 cases r with
 |ok x w'=>
  cases x
  case enter f args=>exact⟨fun e=>(by cases e),CallsIn.inRound l (callsIn_wide.2 h)⟩
  case row r args=>exact⟨fun e=>(by cases e),fun c cs _=>let⟨v,w',p,s⟩:=h c cs;⟨v,w',p,stepsIn_wide.2 s⟩⟩
  all_goals first |exact h|exact h.elim
 |halt x w'=>cases x<;>first |exact h|exact h.elim
theorem op_in {P:Program} {l n:Nat} {ops:Array Oper} {Q:Exit→Act→World→Prop} (hQ:¬LetsOut Q) (hd:ops.all plainOp=true) {i:Nat} {K:Act→World→Prop} {a:Act} {w:World} (h:wpOp P ops Q i K a w):wpOpIn (Fence.wide.inRound l) n P ops Q i K a w:=by
 unfold wpOp at h;unfold wpOpIn;cases ho:ops[i]? with
 |none=>simp only[ho]at h;exact h
 |some o=>
  simp only[ho]at h ⊢;have hp:∀c,o.op≠ .defer c:=plain_op ((Array.all_eq_true_iff_forall_mem).1 hd o (Array.mem_of_getElem? ho));split
  ·rename_i hw;rw[if_pos hw]at h;rcases h with h|⟨_,h⟩
   ·refine⟨fun _ _=>trivial, ?_⟩;rw[Oper.semAt_eq _ _ _ hp];exact upon_in h
   ·exact absurd h hQ
  ·rename_i hw;rw[if_neg hw]at h;exact⟨fun _ _=>trivial,h⟩
theorem any_in {P:Program} {l n:Nat} {ops:Array Oper} {Q:Exit→Act→World→Prop} (hQ:¬LetsOut Q) (hd:ops.all plainOp=true):∀(fuel:Nat) (listed:Array Bool) (a:Act) (w:World),wpAny P .any ops Q fuel listed a w→wpAnyIn (Fence.wide.inRound l) n P .any ops Q fuel listed a w:=by
 intro fuel
 induction fuel with
 |zero=>intro _ _ _ h;exact h
 |succ fuel ih=>intro listed a w h;exact⟨h.1,fun i hi=>wpOpIn_mono (fun a w=>ih _ a w) (op_in hQ hd (h.2 i hi))⟩
theorem Cy {P:Program} {l n id:Nat} {ops:Array Oper} {Q:Exit→Act→World→Prop} {S:World→Prop} {a:Act} {w:World} (hQ:¬LetsOut Q) (hd:ops.all plainOp=true) (hm:P.follows .mixedOrders=true) (hS:S w.drew)
  (h:S w.drew→wpAnyH P .any ops Q S ops.size (Array.replicate ops.size false) a w.drew):(Code.region id ops true).wpIn (Fence.wide.inRound l) n P Q a w:=
 wpIn_region_any hm (any_in hQ hd _ _ _ _ (wpAny_of_held _ _ _ _ (h hS)))
end Go.Proofs.YtjllbchfojonhaaGreatDoor
namespace Go.Proofs.YtjllbchfojonhaaGreatDoor
open Go.RowKit
def insL (l:List cu) (i:Nat):List cu:=l.take i++su l[i]! ::l.drop i
theorem insL_len {l:List cu} {i:Nat} (h:i≤l.length):(insL l i).length=l.length+1:=by unfold insL;simp;omega
def Bh (f:ax) (zs:List (Nat×Nat)) (pre:List (Fin zs.length)) (b:Nat):List cu:=pre.foldl (fun l x=>if zs[x.1]!.1=b then insL l zs[x.1]!.2 else l) f.blocks.2[b]!.insts.2
theorem contE_nil (f:ax) (zs:List (Nat×Nat)) (b:Nat):Bh f zs [] b=f.blocks.2[b]!.insts.2:=rfl
theorem contE_snoc (f:ax) (zs:List (Nat×Nat)) (pre:List (Fin zs.length)) (x:Fin zs.length) (b:Nat):Bh f zs (pre++[x]) b=if zs[x.1]!.1=b then insL (Bh f zs pre b) zs[x.1]!.2 else Bh f zs pre b:=by
 simp[Bh,List.foldl_append]
def okI (x:cu):Prop:=(0≤x.op∧x.op<27)∧x.args.2.length=(dh x.op.toNat).size
theorem ok_need {x:cu} (h:okI x):okI (su x):=by
 obtain⟨⟨h1,h2⟩,h3⟩:=h;unfold su okI;simp only;unfold iq;cases hr:inL rf x.op with
 |false=>
  rw[Cn (k:=x.op.toNat) (by rw[show((x.op.toNat:Nat):Int)=x.op by omega];exact hr)];exact⟨by decide,by simp;rfl⟩
 |true=>
  generalize hk:x.op.toNat=k at*;rcases Ak (k:=k) (by omega) (by rw[show((k:Nat):Int)=x.op by omega];exact hr)with rfl|rfl|rfl|rfl|rfl|rfl;all_goals exact⟨by decide,by rw[List.length_take,List.length_drop,h3];decide⟩
structure PlOK (f:ax) (zs:List (Nat×Nat)):Prop where
 ok:∀b,b<f.nb→∀x∈f.blocks.2[b]!.insts.2,okI x
 len:zs.length≤100000
 at':∀k,k<zs.length→zs[k]!.1<f.nb∧zs[k]!.2<f.blocks.2[zs[k]!.1]!.insts.2.length
theorem contE_ok {f:ax} {zs:List (Nat×Nat)} (h:PlOK f zs):∀(pre:List (Fin zs.length)) (b:Nat),b<f.nb→f.blocks.2[b]!.insts.2.length≤(Bh f zs pre b).length∧(Bh f zs pre b).length≤f.blocks.2[b]!.insts.2.length+pre.length∧∀x∈Bh f zs pre b,okI x:=by
 intro pre
 induction hn:pre.length generalizing pre with
 |zero=>
  obtain rfl:pre=[]:=List.eq_nil_of_length_eq_zero hn;intro b hb;rw[contE_nil];exact⟨Nat.le_refl _,by omega,h.ok b hb⟩
 |succ n ih=>
  obtain⟨p,x,rfl⟩:∃p x,pre=p++[x]:=⟨pre.dropLast,pre.getLast (by intro e;rw[e]at hn;cases hn),(List.dropLast_concat_getLast _).symm⟩;rw[List.length_append,List.length_singleton]at hn;intro b hb;obtain⟨h1,h2,h3⟩:=ih p (by omega) b hb;rw[contE_snoc];split
  ·rename_i e;have hi:=(h.at' x.1 x.2).2;rw[e]at hi;have hil:zs[x.1]!.2<(Bh f zs p b).length:=(by omega);rw[insL_len (by omega)];refine⟨by omega,by omega,fun y hy=> ?_⟩;unfold insL at hy;rcases List.mem_append.1 hy with hy|hy
   ·exact h3 y (List.mem_of_mem_take hy)
   ·rcases List.mem_cons.1 hy with rfl|hy
    ·exact ok_need (h3 _ (az hil))
    ·exact h3 y (List.mem_of_mem_drop hy)
  ·exact⟨h1,by omega,h3⟩
structure GmI (n0:Nat) (W:World) (L9:Nat) (f c:ax) (E:Nat→List cu):Prop where
 box:Blk W L9 26 #[c.vars.1,c.params.1,c.blocks.1]
 vars:W.ownsRow n0 83 2 c.vars.1 c.nv (c.vars.2.map zi.cells).flatten
 pars:W.ownsRow n0 3 1 c.params.1 c.np (c.params.2.map (Value.int .i64))
 rows:W.ownsRow n0 38 7 c.blocks.1 c.nb (c.blocks.2.map df.cells).flatten
 own:∀b,b<c.nb→OwnZ n0 W c.blocks.2[b]!
 apart:Apart c.blocks.2
 same:xk E f c
theorem GmI.tk {n0:Nat} {W W':World} {L9:Nat} {f c:ax} {E:Nat→List cu} (h:GmI n0 W L9 f c E) (k:∀T,TyK T W W'):GmI n0 W' L9 f c E:=
 ⟨k _ _ _ h.box,fe h.vars (k _),fe h.pars (k _),fe h.rows (k _),fun b hb=>(h.own b hb).tk (k _) (k _) (k _),h.apart,h.same⟩
theorem GmI.keep {n0:Nat} {W W':World} {L9:Nat} {f c:ax} {E:Nat→List cu} (h:GmI n0 W L9 f c E) (k:ai W W' []):GmI n0 W' L9 f c E:=h.tk (fun T=>qy k)
theorem tk_other {W W':World} {row:Option Nat} (hg:W.grownBy W' row) (hr:∀r,row=some r→∃o:Obj,W.heap[r]? =some o∧o.isCells=false) (T:TypeId):TyK T W W':=fun b cs hb=>by
 refine(hg.block b hb.lt (fun e=> ?_)).trans hb;obtain⟨o,ho,hc⟩:=hr b e.symm;rw[show W.heap[b]? =_ from hb]at ho;cases ho;cases hc
theorem tk_keeps1 {T t:TypeId} {W W':World} {q:Nat} {cs:Array Value} (k:ai W W' [q]) (hq:Blk W q t cs) (hne:t≠T):TyK T W W':=fun b ds h=>h.keep k (by simp;exact fun e=>sj h hq (fun z=>hne z.symm) e)
theorem own_blk {W:World} {base size n:Nat} {e:TypeId} {v:Value} {xs:List Value} (h:W.ownsRow base e size v n xs) (hn:0<n):∃q cs,v.ownBlock=some q∧Blk W q e cs∧base≤q:=by
 obtain⟨_,⟨_,h0⟩|⟨g,cap,cur,rfl,hb,hg,_⟩⟩:=h
 ·omega
 ·exact⟨g,cur,rfl,hg,hb⟩
theorem flat7_set:∀(es:List (List Value)) (b:Nat) (u:Value),(∀l∈es,l.length=7)→b<es.length→es.flatten.set (b*7+2) u=(es.set b ((es[b]!).set 2 u)).flatten
 |[],b,u,_,hb=>absurd hb (Nat.not_lt_zero _)
 |l::es,0,u,h,_=>by
  have hl:=h l (by simp);simp only[List.flatten_cons,List.set_cons_zero,Nat.zero_mul,Nat.zero_add,List.getElem!_cons_zero];rw[List.set_append,if_pos (by omega)]
 |l::es,b+1,u,h,hb=>by
  have hl:=h l (by simp);simp only[List.flatten_cons,List.set_cons_succ,List.getElem!_cons_succ];rw[List.set_append,if_neg (by omega),show(b+1)*7+2 -l.length=b*7+2 by omega,flat7_set es b u (fun m hm=>h m (List.mem_cons_of_mem _ hm)) (by simpa using hb)]
theorem bang_set {α:Type} [Inhabited α] (l:List α) (b:Nat) (x:α) (hb:b<l.length):(l.set b x)[b]! =x:=by
 rw[getElem!_pos _ b (by simpa using hb),List.getElem_set_self]
theorem Bn {α:Type} [Inhabited α] (l:List α) (b:Nat) (x:α) {j:Nat} (hj:j<l.length) (h:j≠b):(l.set b x)[j]! =l[j]! :=by
 rw[getElem!_pos _ j (by simpa using hj),getElem!_pos l j hj,List.getElem_set_ne (fun e=>h e.symm)]
theorem bang_ins {α:Type} [Inhabited α] (l:List α) (i k:Nat) (x:α) (hi:i≤l.length) (hk:k<l.length+1):(l.take i++x::l.drop i)[k]! =if k<i then l[k]! else if k=i then x else l[k -1]! :=by
 rw[getElem!_pos _ k (by simp;omega)];rw[List.getElem_append];simp only[List.length_take,Nat.min_eq_left hi];split
 ·rename_i h;rw[List.getElem_take,getElem!_pos l k (by omega)]
 ·rename_i h;split
  ·rename_i e;subst e;simp
  ·rename_i e;rw[List.getElem_cons,dif_neg (by omega),List.getElem_drop,getElem!_pos l (k -1) (by omega)]
   congr 1;omega
theorem GmI.ins {n0:Nat} {W1 W2:World} {L9:Nat} {f c:ax} {E:Nat→List cu} (h:GmI n0 W1 L9 f c E) {b i g38:Nat} {v':Value} {xq:cu} (hb:b<f.nb) (hi:i<(E b).length) (hg:c.blocks.1.ownBlock=some g38)
  (hv:W2.ownsRow n0 43 4 v' ((E b).length+1) (((c.blocks.2[b]!.insts.2.map cu.cells).take i++xq.cells::(c.blocks.2[b]!.insts.2.map cu.cells).drop i).flatten))
  (hvb:v'.ownBlock=c.blocks.2[b]!.insts.1.ownBlock∨∃z,v'.ownBlock=some z∧W1.heap.size≤z) (hk:∀q,c.blocks.2[b]!.insts.1.ownBlock=some q→ai W1 W2 [q])
  (hq:W1.ownsRow n0 3 1 xq.args.1 xq.args.2.length (xq.args.2.map (Value.int .i64))) (hs:SameI xq (su (E b)[i]!)):
  ∃c',c'.vars.1=c.vars.1∧c'.params.1=c.params.1∧c'.blocks.1=c.blocks.1∧GmI n0 (W2.setCell ⟨g38,b*7+2,none⟩ v') L9 f c' (fun a=>if b=a then insL (E a) i else E a):=by
 have hcn:c.nb=f.nb:=h.same.nb;have hbc:b<c.nb:=(by omega);have hbl:b<c.blocks.2.length:=hbc;have hB:=h.same.blk b hb;obtain⟨z,hz⟩:∃z,c.blocks.2[b]! =z:=⟨_,rfl⟩;have hoz:=h.own b hbc;rw[hz]at hv hvb hk hB hoz;have hxl:z.insts.2.length=(E b).length:=hB.ilen;obtain⟨q,cq,hqv,hqb,hq0⟩:=own_blk hoz.insts (by omega);have k1:=hk q hqv;have T1:∀T:TypeId,T≠43→TyK T W1 W2:=fun T hT=>tk_keeps1 k1 hqb (fun e=>hT e.symm);have hrow2:=fe h.rows (T1 38 (by decide));obtain⟨g',c38,hg',hb38,-⟩:=own_blk hrow2 (by omega);rw[hg]at hg';cases hg';have T2:∀T:TypeId,T≠38→TyK T W2 (W2.setCell ⟨g38,b*7+2,none⟩ v'):=fun T hT=>ul hb38 (fun e=>hT e.symm);have T12:∀T:TypeId,T≠43→T≠38→TyK T W1 (W2.setCell ⟨g38,b*7+2,none⟩ v'):=fun T h1 h2=>(T1 T h1).trans (T2 T h2);obtain⟨z',hz'⟩:∃z':df,(⟨z.name,z.phis,(v',z.insts.2.take i++xq::z.insts.2.drop i),z.kind,z.var,z.to0,z.to1⟩:df)=z':=⟨_,rfl⟩;have hlen':z'.insts.2.length=(E b).length+1:=(by rw[←hz'];simp;omega);refine⟨⟨c.vars,c.params,(c.blocks.1,c.blocks.2.set b z')⟩,rfl,rfl,rfl, ?_, ?_, ?_, ?_, ?_, ?_, ?_⟩
 ·exact T12 26 (by decide) (by decide) _ _ h.box
 ·exact fe h.vars (T12 83 (by decide) (by decide))
 ·exact fe h.pars (T12 3 (by decide) (by decide))
 ·have h9:=yh hrow2 hg (b*7+2) v';have hfl:=flat7_set (c.blocks.2.map df.cells) b v' (fun l hl=>by obtain⟨y,_,rfl⟩:=List.mem_map.1 hl;rfl) (by simpa using hbl);rw[hfl]at h9;show World.ownsRow _ _ _ _ _ (c.blocks.2.set b z').length ((c.blocks.2.set b z').map df.cells).flatten;rw[List.length_set,List.map_set]
  have e:(c.blocks.2.map df.cells)[b]!.set 2 v'=z'.cells:=by
   rw[getElem!_pos _ b (by simpa using hbl),List.getElem_map,←getElem!_pos c.blocks.2 b hbl,hz,←hz'];rfl
  rw[e]at h9;exact h9
 ·intro j hj;have hj':j<c.blocks.2.length:=(by simpa[ax.nb]using hj);show OwnZ n0 _ (c.blocks.2.set b z')[j]!;by_cases e:j=b
  ·subst e;rw[bang_set _ _ _ hbl,←hz'];refine⟨fe hoz.phis (T12 95 (by decide) (by decide)),fun p hp=>⟨fe (hoz.phi p hp).1 (T12 3 (by decide) (by decide)),fe (hoz.phi p hp).2 (T12 3 (by decide) (by decide))⟩, ?_,fun x hx=> ?_⟩
   ·have h9:=fe hv (T2 43 (by decide));have e2:(z.insts.2.take i++xq::z.insts.2.drop i).length=(E j).length+1:=(by simp;omega);show World.ownsRow _ _ _ _ _ (z.insts.2.take i++xq::z.insts.2.drop i).length ((z.insts.2.take i++xq::z.insts.2.drop i).map cu.cells).flatten;rw[e2,List.map_append,List.map_cons,List.map_take,List.map_drop];exact h9
   ·have hx':x∈z.insts.2∨x=xq:=by
     rcases List.mem_append.1 hx with hx|hx
     ·exact .inl (List.mem_of_mem_take hx)
     ·rcases List.mem_cons.1 hx with rfl|hx
      ·exact .inr rfl
      ·exact .inl (List.mem_of_mem_drop hx)
    rcases hx' with hx|rfl
    ·exact fe (hoz.inst x hx) (T12 3 (by decide) (by decide))
    ·exact fe hq (T12 3 (by decide) (by decide))
  ·rw[Bn _ _ _ hj' e];have ho:=h.own j hj';refine⟨fe ho.phis (T12 95 (by decide) (by decide)),fun p hp=>⟨fe (ho.phi p hp).1 (T12 3 (by decide) (by decide)),fe (ho.phi p hp).2 (T12 3 (by decide) (by decide))⟩, ?_,fun x hx=>fe (ho.inst x hx) (T12 3 (by decide) (by decide))⟩;refine fe (au ho.insts k1 (fun r hr hm=> ?_)) (T2 43 (by decide));rw[List.mem_singleton]at hm;subst hm;exact h.apart b j hbl hj' (fun e2=>e e2.symm) r (by rw[hz];exact hqv) hr
 ·intro j k hj hk2 hne r hr;rw[List.length_set]at hj hk2;by_cases ej:j=b
  ·subst ej;rw[bang_set _ _ _ hbl,←hz']at hr;rw[Bn _ _ _ hk2 (fun e=>hne e.symm)];intro hr2;rcases hvb with e|⟨y,e,hy⟩
   ·exact h.apart j k hbl hk2 hne r (by rw[hz];exact e.symm.trans hr) hr2
   ·have h9:=(ig (h.own k hk2).insts hr2).1;rw[show v'.ownBlock=some r from hr]at e;cases e;omega
  ·rw[Bn _ _ _ hj ej]at hr;by_cases ek:k=b
   ·subst ek;rw[bang_set _ _ _ hbl,←hz'];intro hr2;rcases hvb with e|⟨y,e,hy⟩
    ·exact h.apart j k hj hk2 hne r hr (by rw[hz];exact e.symm.trans hr2)
    ·have h9:=(ig (h.own j hj).insts hr).1;rw[show v'.ownBlock=some r from hr2]at e;cases e;omega
   ·rw[Bn _ _ _ hk2 ek];exact h.apart j k hj hk2 hne r hr
 ·refine⟨h.same.vars,h.same.params,by rw[←hcn];show(c.blocks.2.set b z').length=_;rw[List.length_set];rfl,fun a ha=> ?_⟩;show BlkS _ _ (c.blocks.2.set b z')[a]!;by_cases e:a=b
  ·subst e;rw[bang_set _ _ _ hbl];show BlkS (if a=a then insL (E a) i else E a) _ _;rw[if_pos rfl,←hz'];refine⟨hB.name,hB.plen,hB.phi, ?_,fun k hk=> ?_,hB.kind,hB.var,hB.to0,hB.to1⟩
   ·rw[insL_len (by omega)];simp;omega
   ·rw[insL_len (by omega)]at hk;unfold insL;show SameI (z.insts.2.take i++xq::z.insts.2.drop i)[k]! _;rw[bang_ins _ _ _ _ (by omega) (by omega),bang_ins _ _ _ _ (by omega) (by omega)];split
    ·exact hB.ins k (by omega)
    ·split
     ·exact hs
     ·exact hB.ins (k -1) (by omega)
  ·rw[Bn _ _ _ (by have:c.blocks.2.length=f.nb:=hcn;omega) e];have:=h.same.blk a ha;simp only[if_neg (show ¬b=a from fun e2=>e e2.symm)];exact this
theorem GmI.func {n0:Nat} {W W':World} {L9:Nat} {f c:ax} {E:Nat→List cu} (h:GmI n0 W L9 f c E) (k:∀T,T≠26→TyK T W W') {w0:World} (hf:cz w0 f):cz W' c:=by
 have hcn:c.nb=f.nb:=h.same.nb;refine⟨zu (fun l hl=>by obtain⟨z,_,rfl⟩:=List.mem_map.1 hl;rfl) (by decide) (fe (by have:=h.vars;rwa [show c.nv=(c.vars.2.map zi.cells).length by simp[ax.nv]]at this) (k 83 (by decide))),fun v hv=>hf.names v (by rw[←h.same.vars];exact hv), ?_,zu (fun l hl=>by obtain⟨z,_,rfl⟩:=List.mem_map.1 hl;rfl) (by decide) (fe (by have:=h.rows;rwa [show c.nb=(c.blocks.2.map df.cells).length by simp[ax.nb]]at this) (k 38 (by decide))),fun z hz=> ?_⟩
 ·have h9:=om (fe h.pars (k 3 (by decide)));rw[List.map_map]at h9;exact h9
 ·obtain⟨j,hj,rfl⟩:∃j,j<c.blocks.2.length∧c.blocks.2[j]! =z:=by
   obtain⟨j,hj,e⟩:=List.mem_iff_getElem.1 hz;exact⟨j,hj,by rw[getElem!_pos c.blocks.2 j hj];exact e⟩
  have ho:=h.own j hj;have hB:=h.same.blk j (by have h8:c.blocks.2.length=f.nb:=hcn;omega)
  have ints:∀(p:jl),W.ownsRow n0 3 1 p.1 p.2.length (p.2.map (Value.int .i64))→bu W' p:=fun p hp=>by
   have h9:=om (fe hp (k 3 (by decide)));rw[List.map_map]at h9;exact h9
  refine⟨zu (fun l hl=>by obtain⟨z,_,rfl⟩:=List.mem_map.1 hl;rfl) (by decide) (fe (by have:=ho.phis;rwa [←List.length_map (f:=jk.cells)]at this) (k 95 (by decide))),fun p hp=>⟨ints _ (ho.phi p hp).1,ints _ (ho.phi p hp).2⟩,zu (fun l hl=>by obtain⟨z,_,rfl⟩:=List.mem_map.1 hl;rfl) (by decide) (fe (by have:=ho.insts;rwa [←List.length_map (f:=cu.cells)]at this) (k 43 (by decide))),fun x hx=>ints _ (ho.inst x hx),by rw[hB.name];exact(hf.block _ (az (l:=f.blocks.2) (k:=j) (by have h8:c.blocks.2.length=f.nb:=hcn;show j<f.blocks.2.length;have h7:f.blocks.2.length=f.nb:=rfl;omega))).size⟩
theorem below_keeps {W W':World} (h:Below W.heap.size W W'):ai W W' []:=⟨h.os,h.tape,h.output,h.size,fun i hi _=>h.block i hi⟩
theorem keepsFrom1 {B:Nat} {W W':World} {q:Nat} {t:TypeId} {cs:Array Value} (k:ai W W' [q]) (hq:Blk W q t cs):KeepsFrom B W W':=⟨k.size,fun i o _ ho hc=>(k.block i (Array.getElem?_eq_some_iff.1 ho).1 (by simp;intro e;subst e;rw[show W.heap[i]? =_ from hq]at ho;cases ho;cases hc)).trans ho⟩
theorem keepsFrom0 {B:Nat} {W W':World} (k:ai W W' []):KeepsFrom B W W':=⟨k.size,fun i o _ ho hc=>(k.block i (Array.getElem?_eq_some_iff.1 ho).1 (by simp)).trans ho⟩
end Go.Proofs.YtjllbchfojonhaaGreatDoor
