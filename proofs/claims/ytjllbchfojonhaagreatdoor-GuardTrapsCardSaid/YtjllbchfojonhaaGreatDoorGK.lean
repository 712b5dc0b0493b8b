/- The document's guard: among, Is, Leads; contracts. ; The document's guard: Is, Leads; contracts. ; The document's guard: through a block; contract. ; The document's blocks that are reached: From; contract. ; The guard's field in memory: checks, what is good where; the checks of a program (plain). ; Whether a check is good at a place (plain): the marks bad and fine, closed. ; Where a block's end leads (graph.Ends); a block's ends, a program's. ; The document's guard: is a check good at a place? the walk. -/
import Derived.Test.YtjllbchfojonhaaGreatDoorB2
import Derived.BigQuiet
import Derived.Deep.CutBlock
import Derived.Deep.Cut
import Derived.Test.YtjllbchfojonhaaGreatDoorLG
import Derived.Test.YtjllbchfojonhaaGreatDoorFlat
import Derived.Test.YtjllbchfojonhaaGreatDoorB3
import Derived.Deep.CutRange
set_option linter.unusedVariables false
set_option linter.unusedSimpArgs false
set_option maxRecDepth 100000
set_option maxHeartbeats 200000000
namespace Go.Proofs.YtjllbchfojonhaaGreatDoor
open Go.RowKit
def isB (x:cu) (op:Int) (l:List Int):Bool:=(x.op==op)&&decide (x.args.2=l)
def kw (y:df) (b:Int):Bool:=(y.kind==0&&y.to0==b)||(y.kind==1&&(y.to0==b||y.to1==b))
theorem leads_any (f:ax) (a:Nat) (b:Int) (w:World) (hf:cz w f) (ha:a<f.nb):Calls Tryz.prog 39 #[f.val,.int .i64 (a:Nat),.int .i64 b] w fun e w'=>e= .returned (.bool (kw f.blocks.2[a]! b))∧ai w w' []:=by
 obtain⟨a0,c0,a1,c1,a2,c2,e0,e1,e2,hval,h1,HF,HC0,HC1,HC2,HNV,HNP,HNB⟩:=qj hf;rw[hval];clear hval h1 e0 e1 e2 hf;obtain⟨bb,off,e8,hbb,hbc⟩:=HC2.o a (by rw[HNB.o];exact ha);subst e8;generalize f.blocks.2[a]! =y at*;have HL:=ag (show kw y b=((y.kind==0&&y.to0==b)||(y.kind==1&&(y.to0==b||y.to1==b)))from rfl);generalize kw y b=R at*;have H3:=ag (hbc 3 _ rfl);have H4:=ag (hbc 4 _ rfl);have H5:=ag (hbc 5 _ rfl);have H6:=ag (hbc 6 _ rfl);generalize y.kind=yk at*;generalize y.var=yv at*;generalize y.to0=y0 at*;generalize y.to1=y1 at*;clear hbc HC2;have haz:(a:Int)<(f.nb:Int):=(by omega);have hk0:ai w (w.alloc (.cells #[.slice a0 f.nv c0,.slice a1 f.np c1,.slice (some ⟨bb,off,none⟩) f.nb c2] 26)) []:=(ai.refl _ []).alloc _;have bb0:=Blk.new w 26 #[.slice a0 f.nv c0,.slice a1 f.np c1,.slice (some ⟨bb,off,none⟩) f.nb c2];have Bl:=ag bb0;have HK:=ag hk0;obtain⟨l0,l1,l2⟩:=Bl.o.c3;simp at l0 l1 l2;have n3:=HK.o.cellOf H3.o;have n4:=HK.o.cellOf H4.o;have n5:=HK.o.cellOf H5.o;have n6:=HK.o.cellOf H6.o;clear hk0 bb0;by_cases hk0:yk=0
 ·subst hk0;by_cases ht0:y0=b
  ·subst ht0;go_enter Tryz.func39,Tryz.ntmps39;go_wp2;go_ret;exact⟨ay (by rw[HL.o];simp[*]),HK.o.alloc _⟩
  ·have ht0b:(y0==b)=false:=(by simpa using ht0);go_enter Tryz.func39,Tryz.ntmps39;go_wp2;go_ret;exact⟨ay (by rw[HL.o];simp[*]),HK.o.alloc _⟩
 ·have hk0b:(yk==0)=false:=(by simpa using hk0);by_cases hk1:yk=1
  ·subst hk1;by_cases ht0:y0=b
   ·subst ht0;go_enter Tryz.func39,Tryz.ntmps39;go_wp2;go_ret;exact⟨ay (by rw[HL.o];simp[*]),HK.o.alloc _⟩
   ·have ht0b:(y0==b)=false:=(by simpa using ht0);by_cases ht1:y1=b
    ·subst ht1;go_enter Tryz.func39,Tryz.ntmps39;go_wp2;go_ret;exact⟨ay (by rw[HL.o];simp[*]),HK.o.alloc _⟩
    ·have ht1b:(y1==b)=false:=(by simpa using ht1);go_enter Tryz.func39,Tryz.ntmps39;go_wp2;go_ret;exact⟨ay (by rw[HL.o];simp[*]),HK.o.alloc _⟩
  ·have hk1b:(yk==1)=false:=(by simpa using hk1);go_enter Tryz.func39,Tryz.ntmps39;go_wp2;go_ret;exact⟨ay (by rw[HL.o];simp[*]),HK.o.alloc _⟩
theorem fold_take {α β:Type} [Inhabited α] (g:β→α→β) (b:β) (l:List α) (j:Nat) (hj:j<l.length):(l.take (j+1)).foldl g b=g ((l.take j).foldl g b) l[j]! :=by
 rw[List.take_succ_eq_append_getElem hj,getElem!_pos l j hj,List.foldl_append];rfl
def phiG (l:List Int) (was:Bool) (p:jk):Bool:=if l.contains p.dst=true then false else was
def instG (op:Int) (l:List Int) (was:Bool) (x:cu):Bool:=if(decide (0≤x.dst)&&l.contains x.dst)=true then false else(isB x op l||was)
def lm (y:df) (op:Int) (l:List Int) (pl:Nat) (was:Bool):Bool:=(y.insts.2.take pl).foldl (instG op l) (y.phis.2.foldl (phiG l) was)
def oz (l:List Bool):Array Value:=(l.map Value.bool).toArray
theorem bitsR_at {l:List Bool} {k:Nat} (hk:k<l.length):(oz l)[k]? =some (.bool l[k]!):=by
 unfold oz;rw[List.getElem?_toArray,List.getElem?_map,List.getElem?_eq_getElem hk,getElem!_pos l k hk];rfl
theorem bitsR_set (l:List Bool) (k:Nat) (b:Bool):(oz l).setIfInBounds k (.bool b)=oz (l.set k b):=by
 unfold oz;rw[List.setIfInBounds_toArray,List.map_set]
theorem made_bits (q:Nat):madeCells (Value.bool false).cells q=oz (List.replicate q false):=by
 unfold oz;apply Array.ext
 ·rw[size_madeCells];simp
 ·intro i h1 h2;unfold madeCells;simp[Value.cells,Nat.mod_one]
theorem info4r:(Tryz.prog.info? 4).map (fun i=>(i.zero,i.size,i.bytes))=some (some (.bool false),1,1):=by kernel_rfl
theorem make_bools (q:Nat) (hq:q≤1000) (w:World):(Instr.makeSlice 39 (.int .i64 (q:Int)) (.int .i64 (q:Int))).run Tryz.prog w= .ok (.slice (some ⟨w.heap.size,0,none⟩) q q) (w.alloc (.cells (oz (List.replicate q false)) 4)):=by
 obtain⟨i,hi,he⟩:=Option.map_eq_some_iff.1 info4r;simp only[Prod.mk.injEq]at he;obtain⟨hz,hsz,hby⟩:=he;have hr:=Go.run_makeSlice (P:=Tryz.prog) (w:=w) 39 4 i (.bool false) (by kernel_rfl) hi hz .i64 .i64 (q:Int) (q:Int) (by omega) (Int.le_refl _) (by rw[hsz];omega) (by rw[hby];omega) (by omega);rw[hsz,Int.toNat_natCast,Nat.mul_one,made_bits]at hr;exact hr
def oo (f:ax) (a:Nat):List Nat:=(List.range f.nb).filter fun c=>kw f.blocks.2[a]! (c:Int)
theorem succF_mem {f:ax} {a c:Nat}:c∈oo f a↔c<f.nb∧kw f.blocks.2[a]! (c:Int)=true:=by
 unfold oo;rw[List.mem_filter,List.mem_range]
structure dn where
 op:Int
 args:jl
instance:Inhabited dn:=⟨⟨0,(.slice none 0 0,[])⟩⟩
def dn.cells (c:dn):List Value:=[.int .i64 c.op,c.args.1]
def cu.chk (x:cu):dn:=⟨x.op,x.args⟩
def ko (c d:dn):Bool:=(c.op==d.op)&&decide (c.args.2=d.args.2)
theorem Aj {c d:dn}:ko c d=true↔c.op=d.op∧c.args.2=d.args.2:=by unfold ko;simp
theorem isB_iff {x:cu} {op:Int} {l:List Int}:isB x op l=true↔x.op=op∧x.args.2=l:=by unfold isB;simp
def wm (l:List Bool):List Value:=l.map Value.bool
def yg (cs:List dn):List Value:=(cs.map dn.cells).flatten
theorem zh:∀cs:List dn,∀l∈cs.map dn.cells,l.length=2:=fun cs l hl=>by
 obtain⟨c,_,rfl⟩:=List.mem_map.1 hl;rfl
structure ny (w:World) (L:Nat) (f:ax) (cs:List dn) (th:List Bool) (I:List (List Bool)) (lv tv iv:Value) (vs:List Value):Prop where
 box:Blk w L 89 #[f.vars.1,f.params.1,f.blocks.1,lv,tv,iv]
 fn:cz w f
 l:w.ownsRow 0 49 2 lv cs.length (yg cs)
 la:∀c∈cs,bu w c.args
 t:w.ownsRow 0 4 1 tv th.length (wm th)
 i:w.ownsRow 0 39 1 iv I.length vs
 ir:∀b,b<I.length→w.ownsRow 0 4 1 vs[b]! cs.length (wm I[b]!)
section
variable {w w':World} {L:Nat} {f:ax} {cs:List dn} {th:List Bool} {I:List (List Bool)} {lv tv iv:Value} {vs:List Value}
theorem ny.keep (h:ny w L f cs th I lv tv iv vs) (k:ai w w' []):ny w' L f cs th I lv tv iv vs:=
 ⟨h.box.keep k (by simp),h.fn.keep k,au h.l k (by simp),fun c hc=>Row.keep (h.la c hc) k,au h.t k (by simp),au h.i k (by simp),fun b hb=>au (h.ir b hb) k (by simp)⟩
theorem ny.row (h:ny w L f cs th I lv tv iv vs):Row w 2 lv (cs.map dn.cells):=zu (zh cs) (by omega) h.l
theorem ny.put {G b:Nat} {s:Value} {S:List Bool} (h:ny w L f cs th I lv tv iv vs) (hG:iv.ownBlock=some G) (hb:b<I.length) (hs:w.ownsRow 0 4 1 s cs.length (wm S))
  (hf:cz (w.setCell ⟨G,b,none⟩ s) f) (hla:∀c∈cs,bu (w.setCell ⟨G,b,none⟩ s) c.args):ny (w.setCell ⟨G,b,none⟩ s) L f cs th (I.set b S) lv tv iv (vs.set b s):=by
 have k:ai w (w.setCell ⟨G,b,none⟩ s) [G]:=(ai.refl w _).setCell (.inl (by simp)) _
 have ap:∀{e:TypeId} {size n base:Nat} {v:Value} {xs:List Value},w.ownsRow base e size v n xs→e≠39→∀k,v.ownBlock=some k→k∉[G]:=fun hr he k hk hm=>by
  simp at hm;subst hm;exact xx hr h.i he hk hG
 have hlen:vs.length=I.length:=(by have:=h.i.1;omega);refine⟨h.box.keep k (by simp;rintro rfl;exact own_ne h.i h.box (by decide) hG),hf,au h.l k (ap h.l (by decide)),hla,au h.t k (ap h.t (by decide)), ?_,fun c hc=> ?_⟩
 ·rw[List.length_set];exact yh h.i hG b s
 ·rw[List.length_set]at hc;rw[Dh hb]
  have hv:(vs.set b s)[c]! =if c=b then s else vs[c]! :=by
   rw[getElem!_pos _ c (by simpa[hlen]using hc),List.getElem_set];by_cases e:b=c
   ·rw[if_pos e,if_pos e.symm]
   ·rw[if_neg e,if_neg (Ne.symm e),getElem!_pos vs c (by omega)]
  rw[hv];split
  ·exact au hs k (ap hs (by decide))
  ·exact au (h.ir c hc) k (ap (h.ir c hc) (by decide))
end
def addC (out:List dn) (x:cu):List dn:=if(qx x.op&& !(out.any (ko x.chk)))=true then out++[x.chk]else out
def jd (l:List cu):List dn:=l.foldl addC []
def ze (f:ax):List cu:=f.blocks.2.flatMap fun b=>b.insts.2
def dx (f:ax):List dn:=jd (ze f)
theorem Ab (l:List cu) (x:cu):jd (l++[x])=addC (jd l) x:=by unfold jd;rw[List.foldl_append];rfl
theorem sameB_symm (c d:dn):ko c d=ko d c:=by
 rw[Bool.eq_iff_iff,Aj,Aj];exact⟨fun h=>⟨h.1.symm,h.2.symm⟩,fun h=>⟨h.1.symm,h.2.symm⟩⟩
theorem snoc_ind {α:Type} {P:List α→Prop} (h0:P []) (h1:∀l x,P l→P (l++[x])):∀l,P l:=fun l=>by
 rw[←List.reverse_reverse l]
 induction l.reverse with
 |nil=>exact h0
 |cons x l ih=>rw[List.reverse_cons];exact h1 _ _ ih
theorem collect_mem:∀l:List cu,∀x∈l,qx x.op=true→(jd l).any (ko x.chk)=true:=
 snoc_ind (fun x hx=>by cases hx) fun l y ih x hx hc=>by
  rw[Ab]
  have up:∀c,(jd l).any (ko c)=true→(addC (jd l) y).any (ko c)=true:=fun c h=>by
   unfold addC;split
   ·rw[List.any_append,h,Bool.true_or]
   ·exact h
  rcases List.mem_append.1 hx with h|h
  ·exact up _ (ih x h hc)
  ·rw[List.mem_singleton.1 h]at hc ⊢;cases ha:(jd l).any (ko y.chk)with
   |true=>exact up _ ha
   |false=>
    unfold addC;rw[hc,ha,Bool.true_and,Bool.not_false,if_pos rfl,List.any_append];simp[ko]
theorem collect_of:∀l:List cu,∀c∈jd l,qx c.op=true∧∃x∈l,c=x.chk:=
 snoc_ind (fun c hc=>by cases hc) fun l y ih c hc=>by
  rw[Ab]at hc;unfold addC at hc;split at hc
  ·rename_i h;rcases List.mem_append.1 hc with h1|h1
   ·obtain⟨h2,x,h3,h4⟩:=ih c h1;exact⟨h2,x,List.mem_append_left _ h3,h4⟩
   ·rw[List.mem_singleton.1 h1];rw[Bool.and_eq_true]at h;exact⟨h.1,y,by simp,rfl⟩
  ·obtain⟨h2,x,h3,h4⟩:=ih c hc;exact⟨h2,x,List.mem_append_left _ h3,h4⟩
theorem collect_once:∀l:List cu,(jd l).Pairwise fun c d=>ko c d=false:=
 snoc_ind (by unfold jd;simp) fun l y ih=>by
  rw[Ab];unfold addC;split
  ·rename_i h;rw[List.pairwise_append];refine⟨ih,by simp,fun c hc d hd=> ?_⟩;rw[List.mem_singleton.1 hd];rw[Bool.and_eq_true,Bool.not_eq_true']at h;rw[sameB_symm]
   exact Bool.eq_false_iff.2 fun e=>by
    have:=List.any_eq_true.2 ⟨c,hc,e⟩;rw[h.2]at this;cases this
  ·exact ih
theorem collect_uniq {l:List cu} {i j:Nat} (hi:i<(jd l).length) (hj:j<(jd l).length) {c:dn} (h1:ko c (jd l)[i]! =true) (h2:ko c (jd l)[j]! =true):i=j:=by
 have hp:=List.pairwise_iff_getElem.1 (collect_once l)
 have key:∀i j (hi:i<(jd l).length) (hj:j<(jd l).length),i<j→ko c (jd l)[i]! =true→ko c (jd l)[j]! =true→False:=fun i j hi hj hij h1 h2=>by
  have:=hp i j hi hj hij;rw[getElem!_pos _ i hi]at h1;rw[getElem!_pos _ j hj]at h2;rw[Aj]at h1 h2;rw[Bool.eq_false_iff]at this;exact this (Aj.2 ⟨h1.1.symm.trans h2.1,h1.2.symm.trans h2.2⟩)
 rcases Nat.lt_trichotomy i j with h|h|h
 ·exact(key i j hi hj h h1 h2).elim
 ·exact h
 ·exact(key j i hj hi h h2 h1).elim
theorem phiG_mono (l:List Int) (p:jk):Mono fun b=>phiG l b p:=fun h=>by
 simp only[phiG]at h ⊢;split at h
 ·cases h
 ·cases h
theorem instG_mono (op:Int) (l:List Int) (x:cu):Mono fun b=>instG op l b x:=fun h=>by
 simp only[instG]at h ⊢;split
 ·rename_i h1;rw[if_pos h1]at h;cases h
 ·rename_i h1;rw[if_neg h1]at h;simp at h ⊢
theorem fold_mono {α:Type} (g:Bool→α→Bool) (hg:∀x,Mono fun b=>g b x):∀l:List α,Mono fun b=>l.foldl g b
 |[]=>fun h=>rfl
 |x::l=>fun h=>by
  simp only[List.foldl_cons]at h ⊢;exact mono_le (fold_mono g hg l) (fun h2=>hg x h2) h
theorem through_mono (y:df) (op:Int) (l:List Int) (pl:Nat):Mono (lm y op l pl):=fun h=>by
 unfold lm at h ⊢;exact mono_le (fold_mono (instG op l) (instG_mono op l) _) (fun h2=>fold_mono (phiG l) (phiG_mono l) _ h2) h
end Go.Proofs.YtjllbchfojonhaaGreatDoor
namespace Go.Proofs.YtjllbchfojonhaaGreatDoor
section
variable {succ:Nat→List Nat} {t:Nat→Bool→Bool} {nb:Nat} {bd0 fn0 bd fn:List Bool} {g:Bool} {a k y:Nat}
end
end Go.Proofs.YtjllbchfojonhaaGreatDoor
namespace Go.Proofs.YtjllbchfojonhaaGreatDoor
open Go.RowKit
def Aa (b:df):List Int:=if b.kind=0 then[b.to0]else if b.kind=1 then(if b.to0=b.to1 then[b.to0]else[b.to0,b.to1])else[]
theorem je {w:World} {g:Nat} {t:TypeId} {size:Nat} {cs:List Value} (h:Blk w g t cs.toArray):Row w size (.slice (some ⟨g,0,none⟩) 1 1) [cs]:=by
 refine⟨_,1,rfl,Nat.le_refl _,by simp[maxLen],.inr ⟨g,0,rfl,h.lt,fun j e he i x hx=> ?_⟩⟩
 have hj:j=0∧cs=e:=by
  rcases j with _|j
  ·exact⟨rfl,by simpa using he⟩
  ·simp at he
 obtain⟨rfl,rfl⟩:=hj;simp only[Nat.zero_mul,Nat.zero_add];rw[h.cell i]
 simpa using hx
theorem row_none {w:World} {size:Nat}:Row w size (.slice none 0 0) []:=⟨none,0,rfl,Nat.le_refl _,by simp[maxLen],.inl rfl⟩
theorem row_ints1 {w:World} {g:Nat} {t:TypeId} {a:Int} (h:Blk w g t #[.int .i64 a]):bu w (.slice (some ⟨g,0,none⟩) 1 1,[a]):=je (cs:=[.int .i64 a]) h
theorem row_ints2 {w:World} {g:Nat} {t:TypeId} {a b:Int} (h:Blk w g t #[.int .i64 a,.int .i64 b]):bu w (.slice (some ⟨g,0,none⟩) 2 2,[a,b]):=by
 refine⟨_,2,rfl,Nat.le_refl _,by simp[maxLen],.inr ⟨g,0,rfl,h.lt,fun j e he i x hx=> ?_⟩⟩;simp only[Nat.mul_one,Nat.zero_add]
 have hi:i=0:=by
  rcases i with _|i
  ·rfl
  ·have:e.length=1:=by
    simp only[List.map_cons,List.map_nil]at he;rcases j with _|_|j<;>simp at he<;>(first |(rw[←he];rfl)|cases he)
   have:=(List.getElem?_eq_some_iff.1 hx).1;omega
 subst hi;rw[Nat.add_zero,h.cell j];rcases j with _|_|j<;>simp[intCells]at he<;>(subst he;simpa using hx)
theorem blk_at (W:World) (t:TypeId) (cs:Array Value) {g:Nat} (hg:W.heap.size=g):Blk (W.alloc (.cells cs t)) g t cs:=by
 subst hg;exact Blk.new W t cs
def EndsRet (w:World) (l:List Int) (e:Ending) (w':World):Prop:=(∃q:jl,e= .returned q.1∧q.2=l∧bu w' q∧∀k,q.1.ownBlock=some k→w.heap.size≤k)∧ai w w' []
theorem ends_any (k v a b:Int) (bm:df) (h1:bm.kind=k) (h2:bm.to0=a) (h3:bm.to1=b) (w:World):Calls Tryz.prog 126 #[.agg #[.int .i64 k,.int .i64 v,.int .i64 a,.int .i64 b]] w fun e w'=>EndsRet w (Aa bm) e w':=by
 unfold Aa;rw[h1,h2,h3];clear h1 h2 h3;obtain⟨HK,Bm⟩:=Cc w 36 #[.int .i64 k,.int .i64 v,.int .i64 a,.int .i64 b];obtain⟨m0,m1,m2,m3⟩:=Bm.o.c4;simp at m0 m1 m2 m3;go_enter Tryz.func126,Tryz.ntmps126;by_cases hk0:k=0
 ·rw[if_pos hk0];subst hk0;go_wp2;go_ret;exact⟨⟨(.slice (some ⟨w.heap.size+1,0,none⟩) 1 1,[a]),rfl,rfl,row_ints1 (blk_at _ 3 _ (jh _ _)),fun k hk=>by simp[Value.ownBlock]at hk;omega⟩,HK.o.alloc _⟩
 rw[if_neg hk0];by_cases hk1:k=1
 ·rw[if_pos hk1];subst hk1;by_cases hab:a=b
  ·rw[if_pos hab];subst hab;go_wp2;go_ret;exact⟨⟨(.slice (some ⟨w.heap.size+1,0,none⟩) 1 1,[a]),rfl,rfl,row_ints1 (blk_at _ 3 _ (jh _ _)),fun k hk=>by simp[Value.ownBlock]at hk;omega⟩,HK.o.alloc _⟩
  ·rw[if_neg hab];go_wp2;go_ret;exact⟨⟨(.slice (some ⟨w.heap.size+1,0,none⟩) 2 2,[a,b]),rfl,rfl,row_ints2 (blk_at _ 3 _ (jh _ _)),fun k hk=>by simp[Value.ownBlock]at hk;omega⟩,HK.o.alloc _⟩
 rw[if_neg hk1];go_wp2;go_ret;exact⟨⟨(.slice none 0 0,[]),rfl,rfl,row_none,fun k hk=>by cases hk⟩,HK.o⟩
theorem ends_len (b:df):(Aa b).length≤2:=by
 unfold Aa;split
 ·simp
 ·split
  ·split<;>simp
  ·simp
def ni (f:ax) (c:Nat):List Nat:=(Aa f.blocks.2[c]!).map Int.toNat
theorem endsN_len (f:ax) (c:Nat):(ni f c).length≤2:=by unfold ni;rw[List.length_map];exact ends_len _
structure vw (f:ax):Prop where
  pos:0<f.nb
  nb:f.nb≤1000
  term:∀c,c<f.nb→qi f f.blocks.2[c]!.kind f.blocks.2[c]!.var f.blocks.2[c]!.to0 f.blocks.2[c]!.to1=true
section
variable {f:ax}
theorem inB_lt {v:Int} {n:Nat} (h:inB v n=true):0≤v∧v<(n:Int):=by unfold inB at h;rw[Bool.and_eq_true,decide_eq_true_eq,decide_eq_true_eq]at h;exact h
theorem ends_in (h:vw f) {c:Nat} (hc:c<f.nb) {z:Int} (hz:z∈Aa f.blocks.2[c]!):0≤z∧z<(f.nb:Int):=by
  have ht:=h.term c hc;generalize f.blocks.2[c]! =y at*;unfold Aa at hz;unfold qi at ht;by_cases h0:y.kind=0
  · rw[if_pos h0]at hz ht
    simp only[Bool.and_eq_true]at ht;rw[List.mem_singleton.1 hz];exact inB_lt ht.1.1
  · rw[if_neg h0]at hz ht
    by_cases h1:y.kind=1
    · rw[if_pos h1]at hz ht
      simp only[Bool.and_eq_true]at ht;split at hz
      · rw[List.mem_singleton.1 hz];exact inB_lt ht.1.2
      · rcases List.mem_cons.1 hz with e|hz
        · rw[e];exact inB_lt ht.1.2
        · rw[List.mem_singleton.1 hz];exact inB_lt ht.2
    · rw[if_neg h1]at hz;cases hz
theorem ends_at (h:vw f) {c k:Nat} (hc:c<f.nb) (hk:k<(Aa f.blocks.2[c]!).length):((ni f c)[k]! :Int)=(Aa f.blocks.2[c]!)[k]! ∧(ni f c)[k]! <f.nb:=by
  have hz:=ends_in h hc (az hk)
  have e:(ni f c)[k]! =((Aa f.blocks.2[c]!)[k]!).toNat:=by
    unfold ni;rw[getElem!_pos _ k (by simpa using hk),List.getElem_map,getElem!_pos _ k hk]
  rw[e];omega
theorem ends_lt (h:vw f) {c d:Nat} (hc:c<f.nb) (hd:d∈ni f c):d<f.nb:=by
  obtain⟨z,hz,rfl⟩:=List.mem_map.1 hd;have:=ends_in h hc hz;omega
theorem ends_succ (h:vw f) {c d:Nat} (hc:c<f.nb):d∈ni f c↔d∈oo f c:=by
  rw[succF_mem];constructor
  · intro hd
    refine⟨ends_lt h hc hd, ?_⟩;obtain⟨z,hz,rfl⟩:=List.mem_map.1 hd;have h2:=ends_in h hc hz;rw[Int.toNat_of_nonneg h2.1];generalize f.blocks.2[c]! =y at*;unfold Aa at hz;unfold kw;by_cases h0:y.kind=0
    · rw[if_pos h0]at hz;rw[List.mem_singleton.1 hz,h0];simp
    · rw[if_neg h0]at hz
      by_cases h1:y.kind=1
      · rw[if_pos h1]at hz
        rw[h1];split at hz
        · rw[List.mem_singleton.1 hz];simp
        · rcases List.mem_cons.1 hz with e|hz
          · rw[e];simp
          · rw[List.mem_singleton.1 hz];simp
      · rw[if_neg h1]at hz;cases hz
  · rintro⟨hd,hl⟩
    refine List.mem_map.2 ⟨(d:Int), ?_,by simp⟩;generalize f.blocks.2[c]! =y at*;unfold kw at hl;unfold Aa;simp only[Bool.or_eq_true,Bool.and_eq_true,beq_iff_eq]at hl;rcases hl with⟨h0,h1⟩|⟨h0,h1⟩
    · rw[if_pos h0,h1];simp
    · rw[if_neg (by omega),if_pos h0]
      split
      · rename_i e;rcases h1 with h1|h1
        · rw[h1];simp
        · rw[e,h1];simp
      · rcases h1 with h1|h1
        · rw[h1];simp
        · rw[h1];simp
theorem rway_nb (h:vw f) {b:Nat} (hr:uh (oo f) b):b<f.nb:=by
  cases hr with
  |start=>exact h.pos
  |step _ hs=>exact(succF_mem.1 hs).1
theorem rway_ends (h:vw f) {b:Nat}:uh (ni f) b↔uh (oo f) b:=by
  constructor
  · intro hr
    have:b<f.nb∧uh (oo f) b:=by
      induction hr with
      |start=>exact⟨h.pos,.start⟩
      | @step a c _ hs ih=>exact⟨ends_lt h ih.1 hs,.step ih.2 ((ends_succ h ih.1).1 hs)⟩
    exact this.2
  · intro hr
    induction hr with
    |start=>exact .start
    | @step a c ha hs ih=>exact .step ih ((ends_succ h (rway_nb h ha)).2 hs)
end
def tF (f:ax) (op:Int) (l:List Int) (a:Nat) (g:Bool):Bool:=lm f.blocks.2[a]! op l f.blocks.2[a]!.insts.2.length g
def GoodP (f:ax) (op:Int) (l:List Int) (b pl:Nat):Prop:=∀g,Di (oo f) (tF f op l) b g→lm f.blocks.2[b]! op l pl g=true
end Go.Proofs.YtjllbchfojonhaaGreatDoor
