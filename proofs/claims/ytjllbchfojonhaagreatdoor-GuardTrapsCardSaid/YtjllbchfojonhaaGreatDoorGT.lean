/- Which blocks are reached (graph.reach), the blocks that lead to each (graph.preds); the walks. -/
import Derived.Test.YtjllbchfojonhaaGreatDoorGQ
import Derived.Test.YtjllbchfojonhaaGreatDoorGS
import Derived.Deep.CutBlock
import Derived.Deep.Cut
import Derived.Maps.AppendAt
set_option linter.unusedVariables false
set_option linter.unusedSimpArgs false
set_option maxRecDepth 100000
set_option maxHeartbeats 200000000
namespace Go.Proofs.YtjllbchfojonhaaGreatDoor
open Go.RowKit Go.Shelf Go.Lib
theorem bitsR_own {w:World} {g base n:Nat} {l:List Bool} (h:Blk w g 4 (oz l)) (hb:base≤g) (hn:l.length=n) (hm:n≤maxLen):w.ownsRow base 4 1 (.slice (some ⟨g,0,none⟩) n n) n (wm l):=
 ⟨by rw[bitV_len,hn,Nat.mul_one],.inr ⟨g,n,oz l,rfl,hb,h,Nat.le_refl _,hm,by simp[oz,hn],by rw[Nat.mul_one,←hn];show List.take l.length (l.map Value.bool)=l.map Value.bool;exact List.take_of_length_le (by simp)⟩⟩
def Co (nb:Nat) (ord:List Nat) (j:Nat):List Bool:=(List.range nb).map fun b=>(ord.take j).contains b
theorem markTo_len (nb:Nat) (ord:List Nat) (j:Nat):(Co nb ord j).length=nb:=by simp[Co]
theorem markTo_zero (nb:Nat) (ord:List Nat):Co nb ord 0=List.replicate nb false:=by
 unfold Co;rw[List.take_zero];exact List.ext_getElem (by simp) fun i h1 h2=>by simp
theorem markTo_step {nb:Nat} {ord:List Nat} {j:Nat} (hj:j<ord.length) (hn:ord[j]! <nb):Co nb ord (j+1)=(Co nb ord j).set ord[j]! true:=by
 unfold Co;rw[set_range _ _ hn];refine oq fun b hb=> ?_;rw[List.take_succ_eq_append_getElem hj,getElem!_pos ord j hj,Bool.eq_iff_iff];simp only[List.contains_iff_mem,List.mem_append,List.mem_singleton];by_cases e:b=ord[j]
 ·simp[e]
 ·simp[e]
structure Bb (f:ax) (th:List Bool):Prop where
 len:th.length=f.nb
 mem:∀b,b<f.nb→(th[b]! =true↔uh (oo f) b)
theorem reach_ok {f:ax} {ord:List Nat} (h:OrdOK f ord):Bb f (Co f.nb ord ord.length):=
 ⟨markTo_len _ _ _,fun b hb=>by unfold Co;rw[pu _ hb,List.take_length,←h.mem];simp⟩
theorem natV_at {l:List Nat} {j:Nat} (hj:j<l.length):(Cw l)[j]? =some (.int .i64 (l[j]! :Nat)):=by
 unfold Cw;rw[List.getElem?_map,List.getElem?_eq_getElem hj,getElem!_pos l j hj];rfl
theorem reach_any (f:ax) (w:World) (hf:cz w f) (hE:vw f):Calls Tryz.prog 101 #[f.val] w fun e w'=>(∃v,e= .returned v∧∃th,w'.ownsRow w.heap.size 4 1 v f.nb (wm th)∧Bb f th)∧ai w w' []:=by
 have hn:=hE.nb;have hmk:=make_bools f.nb hn;have HE:=ag hE;have CO:=ag (fun W (h:cz W f)=>order_any f W h hE);obtain⟨a0,c0,a1,c1,a2,c2,e0,e1,e2,hval,h1,HF,HC0,HC1,HC2,HNV,HNP,HNB⟩:=qj hf;rw[hval]at CO ⊢;clear hval h1 e0 e1 e2 hf HC0 HC1 HC2 hE;obtain⟨HK,Bl⟩:=Cc w 26 #[.slice a0 f.nv c0,.slice a1 f.np c1,.slice a2 f.nb c2];obtain⟨l0,l1,l2⟩:=Bl.o.c3;simp at l0 l1 l2;go_enter Tryz.func101,Tryz.ntmps101;go_upto_region 1 with(fail)
 have hszw:w.heap.size≤(w.alloc (.cells #[.slice a0 f.nv c0,.slice a1 f.np c1,.slice a2 f.nb c2] 26)).heap.size:=(by show _≤(Array.push _ _).size;simp[Array.size_push]);clear l0 l1 l2;generalize(w.alloc (.cells #[.slice a0 f.nv c0,.slice a1 f.np c1,.slice a2 f.nb c2] 26))=W0 at*;have Bl_W0:=Bl;have TW0:=HK;clear HK;have HK:=ag (ai.refl W0 []);obtain⟨l0,l1,l2⟩:=Bl.o.c3;simp at l0 l1 l2;have HSW:=ag hszw;clear hszw;go_upto_region 2 with(fail)
 have k3:ai W0 (W0.alloc (.cells (oz (List.replicate f.nb false)) 4)) []:=(ai.refl _ []).alloc _;have bb:=Blk.new W0 4 (oz (List.replicate f.nb false));clear l0 l1 l2;replace Bl:=Bl.kb k3;replace HK:=HK.kt k3;obtain⟨l0,l1,l2⟩:=Bl.o.c3;simp at l0 l1 l2;clear k3;have BB:=ag bb;clear bb;generalize(W0.alloc (.cells (oz (List.replicate f.nb false)) 4))=W1 at*;obtain⟨gs,hgs⟩:∃gs,gs=W0.heap.size:=⟨_,rfl⟩;rw[←hgs]at BB;simp only[←hgs];have HGS:=ag (show W0.heap.size≤gs by omega);clear hgs hmk;go_wp2_with (first |(go_at_call 103;refine(CO.o _ (HF.o.keep (TW0.o.ak HK.o))).mono ?_;rintro e w3 ⟨⟨ov,ord,rfl,hown,hord⟩,k3⟩;obtain⟨oa,oc,rfl,-,-⟩:=cr hown;have OO:=ag hown;have HO:=ag hord;have BB2:=ag (BB.o.keep k3 (by simp));have HGL:=ag BB.o.lt;replace BB:=BB2;clear BB2 hown hord;clear l0 l1 l2;replace Bl:=Bl.kb k3;replace HK:=HK.kt k3;obtain⟨l0,l1,l2⟩:=Bl.o.c3;simp at l0 l1 l2;clear k3))
 have hoz:(ord.length:Int)≤9223372036854775807:=(by obtain⟨h1,h2⟩:=(show ord.length≤oc∧oc≤maxLen from by rcases OO.o.2 with h|⟨g,cap,cur,h,-,-,h4,h5,-⟩;(obtain⟨h,h2⟩:=h;simp only[Value.slice.injEq]at h;omega);(simp only[Value.slice.injEq]at h;omega));unfold maxLen at h2;omega);go_loopw [13] (fun i' wx=>∃j:Nat,j≤ord.length∧i'= .int .i64 j∧Blk wx gs 4 (oz (Co f.nb ord j))∧wx.ownsRow W1.heap.size 3 1 (.slice oa ord.length oc) ord.length (Cw ord)∧ai W0 wx []) (fun i' _=>ord.length -(intOf i').toNat)
 case atStart=>exact⟨0,Nat.zero_le _,rfl,by rw[markTo_zero];exact BB.o,OO.o,HK.o⟩
 case round=>
  obtain⟨j,hj,rfl,hB,hO,hr⟩:=hrel;clear BB OO;clear l0 l1 l2;clear Bl HK;have HK:=ag hr;have Bl:=ag (Bl_W0.o.keep hr (by simp));clear hr;obtain⟨l0,l1,l2⟩:=Bl.o.c3;simp at l0 l1 l2;have BB:=ag hB;have OO:=ag hO;clear hB hO;by_cases hlj:j<ord.length
  ·have hljz:(j:Int)<(ord.length:Int):=(by omega);obtain⟨g,cap,e1,hg,hgo,-,-,-,hc,-⟩:=zl OO.o (by omega);simp only[Value.slice.injEq]at e1;obtain⟨rfl,-,rfl⟩:=e1;have e0:=(hc j (by omega)).trans (natV_at hlj);have hdn:ord[j]! <f.nb:=rway_nb HE.o ((HO.o.mem _).1 (az hlj));have HMS:=ag (markTo_step hlj hdn);have HMD:=ag (show ord[j]! =ord[j]! from rfl);generalize ord[j]! =d at e0 hdn HMS;have hdz:(d:Int)<(f.nb:Int):=(by omega);have s0:wr.cell? ⟨gs,d,none⟩=some (.bool (Co f.nb ord j)[d]!):=(by rw[BB.o.cell d,bitsR_at (by rw[markTo_len];exact hdn)]);have s1:=BB.o.frozen d;clear hc HMD;have HGO:=ag hgo;clear hgo;go_wp2;go_roundw
   case rel=>exact⟨j+1,by omega,by go_num,by rw[HMS.o,←bitsR_set];exact BB.o.gu d _,au OO.o ((ai.refl wr [gs]).setCell (.inl (by simp)) _) (fun k hk hm=>by simp at hm;subst hm;exact own_ne OO.o BB.o (by decide) hk),HK.o.setCell (.inr HGS.o) _⟩
   case measure=>simp[intOf];omega
  ·have hljz:¬(j:Int)<(ord.length:Int):=(by omega);obtain rfl:j=ord.length:=by omega
   go_wp2;go_ret;exact⟨⟨_,rfl,_,bitsR_own BB.o (Nat.le_trans HSW.o HGS.o) (markTo_len _ _ _) (by unfold maxLen;omega),reach_ok HO.o⟩,(TW0.o.ak HK.o)⟩
theorem made_slices (q:Nat):madeCells (Value.slice none 0 0).cells q=Array.replicate q (Value.slice none 0 0):=by
 apply Array.ext
 ·rw[size_madeCells];simp
 ·intro i h1 h2;unfold madeCells;simp[Value.cells,Nat.mod_one]
theorem info23z:(Tryz.prog.info? 23).map (fun i=>(i.zero,i.size,i.bytes))=some (some (.slice none 0 0),1,24):=by kernel_rfl
theorem make_slices (q:Nat) (hq:q≤1000) (w:World):(Instr.makeSlice 119 (.int .i64 (q:Int)) (.int .i64 (q:Int))).run Tryz.prog w= .ok (.slice (some ⟨w.heap.size,0,none⟩) q q) (w.alloc (.cells (Array.replicate q (Value.slice none 0 0)) 23)):=by
 obtain⟨i,hi,he⟩:=Option.map_eq_some_iff.1 info23z;simp only[Prod.mk.injEq]at he;obtain⟨hz,hsz,hby⟩:=he;have hr:=Go.run_makeSlice (P:=Tryz.prog) (w:=w) 119 23 i (.slice none 0 0) (by kernel_rfl) hi hz .i64 .i64 (q:Int) (q:Int) (by omega) (Int.le_refl _) (by rw[hsz];omega) (by rw[hby];omega) (by omega);rw[hsz,Int.toNat_natCast,Nat.mul_one,made_slices]at hr;exact hr
theorem blk_kept {W W3:World} {eb:Nat} {v2:Value} {o:Obj} (hg:(W.alloc o).grownBy W3 v2.ownBlock) (hne:v2.ownBlock≠some eb) (hlt:eb<W.heap.size):W3.heap[eb]? =W.heap[eb]? ∧W.heap.size≤W3.heap.size:=by
 have k:ai W W3 v2.ownBlock.toList:=((ai.refl W _).alloc o).grown hg (fun k hk=> .inl (by rw[hk];simp));exact⟨k.block eb hlt (fun hm=>by rw[Option.mem_toList]at hm;exact hne hm),k.size⟩
theorem cellB_eq {w w':World} {b o:Nat} (h:w'.heap[b]? =w.heap[b]?):w'.cell? ⟨b,o,none⟩=w.cell? ⟨b,o,none⟩:=by
 unfold World.cell?;simp only[h]
structure EndRow (w:World) (G nb eb eo:Nat) (EM:List Int) (vs:List Value):Prop where
 cell:∀j,j<EM.length→w.cell? ⟨eb,eo+j,none⟩=some (.int .i64 EM[j]!)
 lt:0<EM.length→eb<w.heap.size
 ne:0<EM.length→G≠eb
 ap:0<EM.length→∀b,b<nb→vs[b]!.ownBlock≠some eb
structure uk (w:World) (base G nb:Nat) (vs:List Value) (P:List (List Nat)):Prop where
 lv:vs.length=nb
 lp:P.length=nb
 g:Blk w G 23 vs.toArray
 r:∀b,b<nb→w.ownsRow base 3 1 vs[b]! P[b]!.length (Cw P[b]!)
 ap:∀b c,b<nb→c<nb→b≠c→∀k,vs[b]!.ownBlock=some k→vs[c]!.ownBlock≠some k
theorem ln_set {α:Type} [Inhabited α] {l:List α} {i j:Nat} {b:α} (hi:i<l.length):(l.set i b)[j]! =if j=i then b else l[j]! :=by
 by_cases hj:j<l.length
 ·rw[getElem!_pos _ j (by simpa using hj),getElem!_pos l j hj,List.getElem_set];by_cases e:i=j
  ·rw[if_pos e,if_pos e.symm]
  ·rw[if_neg e,if_neg (Ne.symm e)]
 ·rw[getElem!_neg _ j (by simpa using hj),getElem!_neg l j hj,if_neg (by omega)]
section
variable {w w':World} {base G nb:Nat} {vs:List Value} {P:List (List Nat)}
theorem uk.keep (h:uk w base G nb vs P) (k:ai w w' []):uk w' base G nb vs P:=
 ⟨h.lv,h.lp,h.g.keep k (by simp),fun b hb=>au (h.r b hb) k (by simp),h.ap⟩
theorem uk.cell (h:uk w base G nb vs P) {b:Nat} (hb:b<nb):w.cell? ⟨G,b,none⟩=some vs[b]! :=by
 rw[h.g.cell b,List.getElem?_toArray,List.getElem?_eq_getElem (by rw[h.lv];exact hb),getElem!_pos vs b (by rw[h.lv];exact hb)]
theorem uk.put {W3:World} {d:Nat} {o:Obj} {v':Value} {l':List Nat} (h:uk w base G nb vs P) (hd:d<nb) (hb:base≤w.heap.size) (ho:W3.ownsRow base 3 1 v' l'.length (Cw l')) (hg:(w.alloc o).grownBy W3 vs[d]!.ownBlock)
  (hat:v'.ownBlock=vs[d]!.ownBlock∨∃g,v'.ownBlock=some g∧w.heap.size≤g):uk (W3.setCell ⟨G,d,none⟩ v') base G nb (vs.set d v') (P.set d l'):=by
 have hG3:Blk W3 G 23 vs.toArray:=xy h.g (h.r d hd) (by decide) hg;have k:ai W3 (W3.setCell ⟨G,d,none⟩ v') [G]:=(ai.refl _ _).setCell (.inl (by simp)) _;have hdv:d<vs.length:=(by rw[h.lv];exact hd);have hdp:d<P.length:=by rw[h.lp];exact hd
 have hout:∀{n:Nat} {v:Value} {xs:List Value},W3.ownsRow base 3 1 v n xs→∀k,v.ownBlock=some k→k∉[G]:=fun hr k hk hm=>by
  simp at hm;subst hm;exact own_ne hr hG3 (by decide) hk
 have old:∀c,c<nb→c≠d→W3.ownsRow base 3 1 vs[c]! P[c]!.length (Cw P[c]!):=fun c hc hne=>by
  refine World.ownsRow.kept (au (h.r c hc) ((ai.refl w []).alloc _) (by simp)) hg ?_;cases e:vs[c]!.ownBlock with
  |none=>exact .inl rfl
  |some k=>exact .inr (fun e2=>h.ap c d hc hd hne k e e2.symm)
 have fresh:∀c,c<nb→∀k,vs[c]!.ownBlock=some k→k<w.heap.size:=fun c hc k hk=>(ig (h.r c hc) hk).1;refine⟨by rw[List.length_set];exact h.lv,by rw[List.length_set];exact h.lp, ?_,fun c hc=> ?_,fun b c hb hc hne k hk=> ?_⟩
 ·have:=hG3.gu d v'
  rwa [List.setIfInBounds_toArray]at this
 ·rw[ln_set hdv,ln_set hdp];by_cases e:c=d
  ·rw[if_pos e,if_pos e];exact au ho k (hout ho)
  ·rw[if_neg e,if_neg e];exact au (old c hc e) k (hout (old c hc e))
 ·rw[ln_set hdv]at hk ⊢;by_cases e1:b=d
  ·rw[if_pos e1]at hk;rw[if_neg (by omega)];rcases hat with ha|⟨g,ha,hg2⟩
   ·rw[ha]at hk;exact h.ap d c hd hc (by omega) k hk
   ·rw[ha]at hk;intro e2;have:=fresh c hc k e2;simp at hk;omega
  ·rw[if_neg e1]at hk;by_cases e2:c=d
   ·rw[if_pos e2];rcases hat with ha|⟨g,ha,hg2⟩
    ·rw[ha];exact h.ap b d hb hd e1 k hk
    ·rw[ha];intro e3;have:=fresh b hb k hk;simp at e3;omega
   ·rw[if_neg e2];exact h.ap b c hb hc hne k hk
end
theorem EndRow.put {w W3:World} {base G nb eb eo d:Nat} {EM:List Int} {vs:List Value} {P:List (List Nat)} {o:Obj} {v':Value} (h:EndRow w G nb eb eo EM vs) (hP:uk w base G nb vs P) (hd:d<nb) (hE:0<EM.length) (hg:(w.alloc o).grownBy W3 vs[d]!.ownBlock)
  (hat:v'.ownBlock=vs[d]!.ownBlock∨∃g,v'.ownBlock=some g∧w.heap.size≤g):EndRow (W3.setCell ⟨G,d,none⟩ v') G nb eb eo EM (vs.set d v'):=by
 obtain⟨h1,h2⟩:=blk_kept hg (h.ap hE d hd) (h.lt hE);have k:ai W3 (W3.setCell ⟨G,d,none⟩ v') [G]:=(ai.refl _ _).setCell (.inl (by simp)) _;have hlt:=h.lt hE;have h3:=k.block eb (by omega) (by simp;exact fun e=>h.ne hE e.symm);refine⟨fun j hj=> ?_,fun _=>by have:=k.size;omega,h.ne,fun _ b hb=> ?_⟩
 ·rw[cellB_eq h3,cellB_eq h1];exact h.cell j hj
 ·rw[ln_set (by rw[hP.lv];exact hd)];by_cases e:b=d
  ·rw[if_pos e];rcases hat with ha|⟨g,ha,hg2⟩
   ·rw[ha];exact h.ap hE d hd
   ·rw[ha];intro e2;simp at e2;omega
  ·rw[if_neg e];exact h.ap hE b hb
structure PrI (f:ax) (P:List (List Nat)) (x e:Nat):Prop where
 mem:∀b,b<f.nb→∀p,p∈P[b]! ↔(p<x∧p<f.nb∧b∈ni f p)∨(p=x∧b∈(ni f x).take e)
 len:∀b,b<f.nb→P[b]!.length≤2*x+e
theorem pr_start (f:ax):PrI f (List.replicate f.nb []) 0 0:=
 ⟨fun b hb p=>by rw[Ck _ hb];simp,fun b hb=>by rw[Ck _ hb];simp⟩
theorem pr_step {f:ax} {P:List (List Nat)} {x e d:Nat} (h:PrI f P x e) (hl:P.length=f.nb) (he:e<(ni f x).length) (hd:(ni f x)[e]! =d) (hdn:d<f.nb):PrI f (P.set d (P[d]! ++[x])) x (e+1):=by
 have hdp:d<P.length:=(by rw[hl];exact hdn);have ht:(ni f x).take (e+1)=(ni f x).take e++[d]:=(by rw[List.take_succ_eq_append_getElem he,←hd,getElem!_pos _ e he]);refine⟨fun b hb p=> ?_,fun b hb=> ?_⟩
 ·rw[ln_set hdp,ht];by_cases e1:b=d
  ·rw[if_pos e1,List.mem_append,List.mem_singleton,←e1,h.mem b hb];simp only[List.mem_append,List.mem_singleton];constructor
   ·rintro((h1|h1)|h1)
    ·exact .inl h1
    ·exact .inr ⟨h1.1,.inl h1.2⟩
    ·exact .inr ⟨h1,.inr trivial⟩
   ·rintro(h1|⟨h1,h2|h2⟩)
    ·exact .inl (.inl h1)
    ·exact .inl (.inr ⟨h1,h2⟩)
    ·exact .inr h1
  ·rw[if_neg e1,h.mem b hb];simp only[List.mem_append,List.mem_singleton,e1,or_false]
 ·rw[ln_set hdp];have:=h.len b hb;by_cases e1:b=d
  ·rw[if_pos e1,←e1,List.length_append,List.length_singleton];omega
  ·rw[if_neg e1];omega
theorem pr_next {f:ax} {P:List (List Nat)} {x:Nat} (hx:x<f.nb) (h:PrI f P x (ni f x).length):PrI f P (x+1) 0:=by
 have h2:=endsN_len f x;refine⟨fun b hb p=> ?_,fun b hb=>by have:=h.len b hb;omega⟩;rw[h.mem b hb,List.take_length,List.take_zero];constructor
 ·rintro(h1|⟨rfl,h1⟩)
  ·exact .inl ⟨by omega,h1.2⟩
  ·exact .inl ⟨by omega,hx,h1⟩
 ·rintro(h1|h1)
  ·by_cases e:p=x
   ·exact .inr ⟨e,e▸h1.2.2⟩
   ·exact .inl ⟨by omega,h1.2⟩
  ·exact absurd h1.2 (by simp)
structure Df (f:ax) (P:List (List Nat)):Prop where
 mem:∀b,b<f.nb→∀p,p∈P[b]! ↔p<f.nb∧b∈oo f p
 len:∀b,b<f.nb→P[b]!.length≤2*f.nb
theorem pr_done {f:ax} (hE:vw f) {P:List (List Nat)} (h:PrI f P f.nb 0):Df f P:=
 ⟨fun b hb p => by
  rw[h.mem b hb];constructor
  ·rintro(h1|h1)
   ·exact⟨h1.1,(ends_succ hE h1.1).1 h1.2.2⟩
   ·exact absurd h1.2 (by simp)
  ·rintro⟨h1,h2⟩
   exact .inl ⟨h1,h1,(ends_succ hE h1).2 h2⟩,fun b hb=>by have:=h.len b hb;omega⟩
theorem preds_any (f:ax) (w:World) (hf:cz w f) (hE:vw f):Calls Tryz.prog 102 #[f.val] w fun e w'=>(∃g,e= .returned (.slice (some ⟨g,0,none⟩) f.nb f.nb)∧∃vs P,uk w' w.heap.size g f.nb vs P∧Df f P)∧ai w w' []:=by
 obtain⟨i3,hi3,he3⟩:=Option.map_eq_some_iff.1 info3c;simp only[Prod.mk.injEq]at he3;obtain⟨hz3,hs3,hb3⟩:=he3;have hn:=hE.nb;have hmk:=make_slices f.nb hn;have HE:=ag hE;obtain⟨a0,c0,a1,c1,a2,c2,e0,e1,e2,hval,h1,HF,HC0,HC1,HC2,HNV,HNP,HNB⟩:=qj hf;rw[hval];clear hval h1 e0 e1 e2 hf HC0 HC1 hE;obtain⟨HK,Bl⟩:=Cc w 26 #[.slice a0 f.nv c0,.slice a1 f.np c1,.slice a2 f.nb c2];obtain⟨l0,l1,l2⟩:=Bl.o.c3;simp at l0 l1 l2;go_enter Tryz.func102,Tryz.ntmps102;go_upto_region 1 with(fail)
 have hszw:w.heap.size≤(w.alloc (.cells #[.slice a0 f.nv c0,.slice a1 f.np c1,.slice a2 f.nb c2] 26)).heap.size:=(by show _≤(Array.push _ _).size;simp[Array.size_push]);clear l0 l1 l2;generalize(w.alloc (.cells #[.slice a0 f.nv c0,.slice a1 f.np c1,.slice a2 f.nb c2] 26))=W0 at*;have Bl_W0:=Bl;have TW0:=HK;clear HK;have HK:=ag (ai.refl W0 []);obtain⟨l0,l1,l2⟩:=Bl.o.c3;simp at l0 l1 l2;have HSW:=ag hszw;clear hszw;go_upto_region 2 with(fail)
 have k3:ai W0 (W0.alloc (.cells (Array.replicate f.nb (Value.slice none 0 0)) 23)) []:=(ai.refl _ []).alloc _;have bb:=Blk.new W0 23 (Array.replicate f.nb (Value.slice none 0 0));clear l0 l1 l2;replace Bl:=Bl.kb k3;replace HK:=HK.kt k3;obtain⟨l0,l1,l2⟩:=Bl.o.c3;simp at l0 l1 l2;have HP:=ag (show uk (W0.alloc (.cells (Array.replicate f.nb (Value.slice none 0 0)) 23)) W0.heap.size W0.heap.size f.nb (List.replicate f.nb (Value.slice none 0 0)) (List.replicate f.nb [])from⟨by simp,by simp,by rw[List.toArray_replicate];exact bb,fun b hb=>by rw[Ck _ hb,Ck _ hb];exact World.ownsRow_nil _ _ _ _,fun b c hb hc _ k hk=>by rw[Ck _ hb]at hk;cases hk⟩);clear bb k3;generalize(W0.alloc (.cells (Array.replicate f.nb (Value.slice none 0 0)) 23))=W1 at*;obtain⟨gs,hgs⟩:∃gs,gs=W0.heap.size:=⟨_,rfl⟩;rw[show uk W1 W0.heap.size W0.heap.size f.nb (List.replicate f.nb (Value.slice none 0 0)) (List.replicate f.nb [])=uk W1 W0.heap.size gs f.nb (List.replicate f.nb (Value.slice none 0 0)) (List.replicate f.nb []) by rw[hgs]]at HP;simp only[←hgs];have HGS:=ag (show W0.heap.size≤gs by omega);clear hgs hmk;go_wp2;go_loopw [15] (fun i' wx=>∃(x:Nat) (vs:List Value) (P:List (List Nat)),x≤f.nb∧i'= .int .i64 x∧Hid (uk wx W0.heap.size gs f.nb vs P)∧Hid (PrI f P x 0)∧ai W0 wx []) (fun i' _=>f.nb -(intOf i').toNat)
 case atStart=>exact⟨0,_,_,Nat.zero_le _,rfl,HP.o,pr_start f,HK.o⟩
 case round=>
  obtain⟨x,vs,P,hx,rfl,hP,hI,hr⟩:=hrel;clear HP;clear l0 l1 l2;clear Bl HK;have HK:=ag hr;have Bl:=ag (Bl_W0.o.keep hr (by simp));clear hr;obtain⟨l0,l1,l2⟩:=Bl.o.c3;simp at l0 l1 l2;have HP:=ag hP.out;have HI:=ag hI.out;clear hP hI;by_cases hlx:x<f.nb
  ·have hlxz:(x:Int)<(f.nb:Int):=(by omega);obtain⟨yb,yo,e8,hyb,hbc⟩:=HC2.o x (by rw[HNB.o];exact hlx);obtain rfl:=e8;have HBA:=ag (HF.o.block _ (az (l:=f.blocks.2) (k:=x) hlx));have y0:=(TW0.o.ak HK.o).cellOf (hbc 0 _ rfl);have y1:=(TW0.o.ak HK.o).cellOf (hbc 1 _ rfl);have y2:=(TW0.o.ak HK.o).cellOf (hbc 2 _ rfl);have y3:=(TW0.o.ak HK.o).cellOf (hbc 3 _ rfl);have y4:=(TW0.o.ak HK.o).cellOf (hbc 4 _ rfl);have y5:=(TW0.o.ak HK.o).cellOf (hbc 5 _ rfl);have y6:=(TW0.o.ak HK.o).cellOf (hbc 6 _ rfl);simp only[Nat.add_zero]at y0;clear hbc HC2;obtain⟨qa,qc,e7,-,-,-⟩:=HBA.o.insts.open_;rw[e7]at y2;obtain⟨pa,pc,e6,-,-,-⟩:=HBA.o.phis.open_;rw[e6]at y1;clear e6 e7 HBA;have CE:=ag (fun W=>ends_any f.blocks.2[x]!.kind f.blocks.2[x]!.var f.blocks.2[x]!.to0 f.blocks.2[x]!.to1 f.blocks.2[x]! rfl rfl rfl W);have HEA:=ag (fun k (hk:k<(Aa f.blocks.2[x]!).length)=>ends_at HE.o hlx hk);have HEL:=ag (show(ni f x).length=(Aa f.blocks.2[x]!).length by unfold ni;rw[List.length_map]);have hTL:(Aa f.blocks.2[x]!).length≤2:=ends_len _;generalize f.blocks.2[x]! =y at*;generalize Aa y=EM at*;generalize y.name=yn at*;generalize y.phis.2.length=pn at*;generalize y.insts.2.length=yil at*;generalize y.kind=yk at*;generalize y.var=yv at*;generalize y.to0=yt0 at*;generalize y.to1=yt1 at*;go_upto_region 5 with(fail)
   clear y0 y1 y2 y3 y4 y5 y6;have kx:ai wr (wr.alloc (.cells #[.string yn,.slice pa pn pc,.slice qa yil qc,.int .i64 yk,.int .i64 yv,.int .i64 yt0,.int .i64 yt1] 38)) []:=(ai.refl wr []).alloc _;replace HP:=ag (HP.o.keep kx);clear kx;clear l0 l1 l2;have bmx:=Blk.new wr 38 #[.string yn,.slice pa pn pc,.slice qa yil qc,.int .i64 yk,.int .i64 yv,.int .i64 yt0,.int .i64 yt1];have k3:ai wr (wr.alloc (.cells #[.string yn,.slice pa pn pc,.slice qa yil qc,.int .i64 yk,.int .i64 yv,.int .i64 yt0,.int .i64 yt1] 38)) []:=(ai.refl wr []).alloc _;replace Bl:=Bl.kb k3;replace HK:=HK.kt k3;have Bx:=ag bmx;clear k3 bmx;obtain⟨l0,l1,l2⟩:=Bl.o.c3;obtain⟨x0,x1,x2,x3,x4,x5,x6⟩:=Bx.o.c7;simp at l0 l1 l2 x0 x1 x2 x3 x4 x5 x6;generalize hWX:(wr.alloc (.cells #[.string yn,.slice pa pn pc,.slice qa yil qc,.int .i64 yk,.int .i64 yv,.int .i64 yt0,.int .i64 yt1] 38))=W4 at*;clear hWX;generalize wr.heap.size=bx at*;clear l0 l1 l2 x0 x1 x2 x3 x4 x5 x6;obtain⟨l0,l1,l2⟩:=Bl.o.c3;obtain⟨x0,x1,x2,x3,x4,x5,x6⟩:=Bx.o.c7;simp at l0 l1 l2 x0 x1 x2 x3 x4 x5 x6;go_upto_region 6 with(first |(go_at_call 126;refine(CE.o _).mono ?_;rintro e w3 ⟨⟨q,rfl,hq2,hq3,hq4⟩,k3⟩;have HQA:=ag hq3;have HQB:=ag hq4;have HPL:=ag (fun b hb k hk=>(ig (HP.o.r b hb) (k:=k) hk).1);have HGL:=ag HP.o.g.lt;have HQL:=ag hq2;clear hq2 hq3 hq4;replace HP:=ag (HP.o.keep k3);clear l0 l1 l2 x0 x1 x2 x3 x4 x5 x6;replace Bl:=Bl.kb k3;replace Bx:=Bx.kb k3;replace HK:=HK.kt k3;obtain⟨l0,l1,l2⟩:=Bl.o.c3;obtain⟨x0,x1,x2,x3,x4,x5,x6⟩:=Bx.o.c7;simp at l0 l1 l2 x0 x1 x2 x3 x4 x5 x6;clear k3;obtain⟨ta,tc,e9,htl,htm,hte⟩:=Row.open_ (M:=Int) (cells:=intCells) HQA.o;rw[e9];rw[e9]at HQB;rw[HQL.o]at htl hte HQB ⊢;have HTE:=ag hte;clear e9 hte HQA HQL))
   have HTA:Hid (∃eb eo,(∀j,j<EM.length→ta=some ⟨eb,eo,none⟩)∧EndRow w3 gs f.nb eb eo EM vs):=by
        rcases Nat.eq_zero_or_pos EM.length with h0|h0
        ·exact⟨0,0,fun j hj=>by omega,fun j hj=>by omega,fun h=>by omega,fun h=>by omega,fun h=>by omega⟩
        ·obtain⟨eb,eo,rfl,hlt,-⟩:=HTE.o 0 h0;have hge:=HQB.o eb rfl;refine⟨eb,eo,fun j hj=>rfl,fun j hj=> ?_,fun _=>hlt,fun _ e=>by have h9:=HGL.o;omega,fun _ b hb e=>by have h9:=HPL.o b hb eb e;omega⟩;obtain⟨b2,o2,e2,-,hc2⟩:=HTE.o j hj;simp only[Option.some.injEq,Addr.mk.injEq]at e2;obtain⟨rfl,rfl,-⟩:=e2;have:=hc2 0 _ rfl
         simpa using this
   obtain⟨eb,eo,hta,hER⟩:=HTA.o;have HTS:=ag hta;have HER:=ag hER;clear hta hER HTA HTE HQB HPL HGL;go_loopw [24] (fun i' wx=>∃(e:Nat) (vs:List Value) (P:List (List Nat)),e≤EM.length∧i'= .int .i64 e∧Hid (uk wx W0.heap.size gs f.nb vs P)∧Hid (PrI f P x e)∧Hid (EndRow wx gs f.nb eb eo EM vs)∧ai W0 wx []) (fun i' _=>EM.length -(intOf i').toNat)
   case atStart=>exact⟨0,vs,P,Nat.zero_le _,rfl,HP.o,HI.o,HER.o,HK.o⟩
   case round=>
    obtain⟨e,vs2,P2,he,rfl,hP,hI,hER,hr⟩:=hrel;clear HP HI HER;clear l0 l1 l2 x0 x1 x2 x3 x4 x5 x6;clear Bl Bx HK;have HK:=ag hr;have HP:=ag hP.out;have HI:=ag hI.out;have HER:=ag hER.out;clear hr hP hI hER;by_cases hle:e<EM.length
    ·have hlez:(e:Int)<(EM.length:Int):=(by omega);obtain⟨hd1,hd2⟩:=HEA.o e hle;have hte:=HTS.o e hle;obtain rfl:=hte;have e0:=HER.o.cell e hle;rw[←hd1]at e0;have HDD:=ag (show(ni f x)[e]! =(ni f x)[e]! from rfl);generalize hdd:(ni f x)[e]! =d at hd2 e0;replace HDD:=ag hdd;clear hdd hd1;have hdz:(d:Int)<(f.nb:Int):=(by omega);have d0:=HP.o.cell hd2;have d1:=HP.o.g.frozen d;have HPS:=ag (pr_step HI.o HP.o.lp (by rw[HEL.o];exact hle) HDD.o hd2);have HLN:=ag (HI.o.len d hd2);have HRW:=ag (HP.o.r d hd2);have HOW:=ag (show vs2[d]! =vs2[d]! from rfl);generalize hvd:vs2[d]! =vd at d0 HRW;replace HOW:=ag hvd;clear hvd;generalize hpl:P2[d]!.length=pl at HRW HLN;have HPLn:=ag hpl;clear hpl;obtain⟨va,vc,rfl,-,-⟩:=cr HRW.o;have HSZ:=ag HK.o.size;go_upto_region 9 with(first |(at_builtin;go_must(refine wpList_append_own_at _ rfl (.tmp 33) (.tmp 35) 23 rfl W0.heap.size 3 i3 (.int .i64 0) 1 8 Tryz.underlying23 hi3 hz3 hs3 hb3 rfl (by decide) (.slice va pl vc) pl (Cw P2[d]!) rfl (au HRW.o ((ai.refl wr []).alloc _) (by simp)) ⟨wr.heap.size,0,none⟩ 1 1 [.int .i64 (x:Nat)] rfl rfl (zx _ _ _) (uy rfl) (by have h9:=HLN.o;unfold maxLen;omega) (by have h9:=HLN.o;omega) (by rw[jh];have h9:=HSZ.o;omega) ?_);go_must(intro v' w5 hown hgrow hnil hat;obtain⟨va2,vc2,rfl,-,-⟩:=cr hown;have hO5:=ag hown;have hG5:=ag hgrow;have hA5:=ag hat;clear hown hgrow hnil hat;have d2:w5.cell? ⟨gs,d,none⟩=some (.slice va pl vc):=(by have h9:=(xy HP.o.g HRW.o (by decide) hG5.out).cell d;rw[h9,←HP.o.g.cell d];exact d0);have d3:=(xy HP.o.g HRW.o (by decide) hG5.out).frozen d;clear d0 d1 e0)))
     have HAT:Hid ((Value.slice va2 (pl+1) vc2).ownBlock=vs2[d]!.ownBlock∨∃g,(Value.slice va2 (pl+1) vc2).ownBlock=some g∧wr.heap.size≤g):=(by rw[HOW.o];rcases hA5.out with h|h;exact .inl h;exact .inr ⟨_,h,by rw[jh];omega⟩);have hG6:((wr.alloc (.cells #[.int .i64 (x:Nat)] 3)).grownBy w5 vs2[d]!.ownBlock):=(by rw[HOW.o];exact hG5.out);have hPP:=HP.o.put hd2 HSZ.o (l':=P2[d]! ++[x]) (by have h9:=hO5.out;rw[List.length_append,List.length_singleton,HPLn.o];unfold Cw at h9 ⊢;rw[List.map_append];exact h9) hG6 HAT.o;have hEE:=HER.o.put HP.o hd2 (by omega) hG6 HAT.o;have hKK:ai W0 w5 []:=ui HK.o HRW.o (Nat.le_refl _) hG5.out;clear d2 d3;go_wp2;go_roundw
     case rel=>exact⟨e+1,_,_,by omega,by go_num,hPP,HPS.o,hEE,hKK.setCell (.inr HGS.o) _⟩
     case measure=>simp[intOf];omega
    ·have hlez:¬(e:Int)<(EM.length:Int):=(by omega);obtain rfl:e=EM.length:=by omega
     go_wp2;go_roundw
     case rel=>exact⟨x+1,vs2,P2,by omega,by go_num,HP.o,pr_next hlx (by rw[HEL.o];exact HI.o),HK.o⟩
     case measure=>simp[intOf];omega
  ·have hlxz:¬(x:Int)<(f.nb:Int):=(by omega);obtain rfl:x=f.nb:=by omega
   go_wp2;go_ret;exact⟨⟨gs,rfl,vs,P,⟨HP.o.lv,HP.o.lp,HP.o.g,fun b hb=>dm (HP.o.r b hb) HSW.o,HP.o.ap⟩,pr_done HE.o HI.o⟩,(TW0.o.ak HK.o)⟩
end Go.Proofs.YtjllbchfojonhaaGreatDoor
