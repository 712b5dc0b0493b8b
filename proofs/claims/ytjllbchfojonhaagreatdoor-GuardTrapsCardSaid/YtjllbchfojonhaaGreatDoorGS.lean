/- All checks of a program, each once (guard.collect); the walk. -/
import Derived.Test.YtjllbchfojonhaaGreatDoorGO
import Derived.Test.YtjllbchfojonhaaGreatDoorGN
import Derived.Test.YtjllbchfojonhaaGreatDoorGK
import Derived.Deep.CutBlock
import Derived.Deep.Cut
set_option linter.unusedVariables false
set_option linter.unusedSimpArgs false
set_option maxRecDepth 100000
set_option maxHeartbeats 200000000
namespace Go.Proofs.YtjllbchfojonhaaGreatDoor
open Go.RowKit
def zo (f:ax) (k j:Nat):List cu:=(f.blocks.2.take k).flatMap (fun b=>b.insts.2)++f.blocks.2[k]!.insts.2.take j
section
variable {f:ax} {k j:Nat}
theorem preI_zero:zo f 0 0=[]:=by simp[zo]
theorem preI_snoc (hj:j<f.blocks.2[k]!.insts.2.length):zo f k (j+1)=zo f k j++[f.blocks.2[k]!.insts.2[j]!]:=by
 unfold zo;rw[List.take_succ_eq_append_getElem hj,getElem!_pos _ j hj,List.append_assoc]
theorem preI_next (hk:k<f.nb):zo f (k+1) 0=zo f k f.blocks.2[k]!.insts.2.length:=by
 unfold zo;have hk':k<f.blocks.2.length:=hk;rw[List.take_zero,List.append_nil,List.take_succ_eq_append_getElem hk',List.flatMap_append,List.take_length,getElem!_pos _ k hk'];simp
theorem preI_end:zo f f.nb 0=ze f:=by
 unfold zo ze;rw[List.take_zero,List.append_nil,show f.nb=f.blocks.2.length from rfl,List.take_length]
theorem preI_pre (hk:k≤f.nb) (hj:k=f.nb→j=0):∃r,ze f=zo f k j++r:=by
 rcases Nat.lt_or_ge k f.nb with h|h
 ·have hk':k<f.blocks.2.length:=h;refine⟨f.blocks.2[k]!.insts.2.drop j++(f.blocks.2.drop (k+1)).flatMap (fun b=>b.insts.2), ?_⟩;unfold zo ze
  have e:f.blocks.2=f.blocks.2.take k++f.blocks.2[k]! ::f.blocks.2.drop (k+1):=by
   rw[getElem!_pos _ k hk',←List.drop_eq_getElem_cons hk',List.take_append_drop]
  conv=>lhs;rw[e]
  rw[List.flatMap_append,List.flatMap_cons,List.append_assoc,←List.append_assoc (List.take j _),List.take_append_drop]
 ·obtain rfl:k=f.nb:=by omega
  rw[hj rfl];exact⟨[],by rw[preI_end,List.append_nil]⟩
theorem preI_mem (hk:k≤f.nb) (hj:k=f.nb→j=0) {x:cu} (hx:x∈zo f k j):x∈ze f:=by
 obtain⟨r,e⟩:=preI_pre hk hj;rw[e];exact List.mem_append_left _ hx
theorem preI_len (hk:k≤f.nb) (hj:k=f.nb→j=0):(zo f k j).length≤(ze f).length:=by
 obtain⟨r,e⟩:=preI_pre hk hj;rw[e,List.length_append];omega
theorem collect_len:∀l:List cu,(jd l).length≤l.length:=
 snoc_ind (Nat.le_refl _) fun l x ih=>by
  rw[Ab];unfold addC;split
  ·simp only[List.length_append,List.length_singleton];omega
  ·simp only[List.length_append,List.length_singleton];omega
end
theorem inst_args {w:World} {f:ax} (h:cz w f) {x:cu} (hx:x∈ze f):bu w x.args:=by
 obtain⟨b,hb,hx⟩:=List.mem_flatMap.1 hx;exact(h.block b hb).inst x hx
theorem coll_args {w:World} {f:ax} (h:cz w f) {k j:Nat} (hk:k≤f.nb) (hj:k=f.nb→j=0) {d:dn} (hd:d∈jd (zo f k j)):bu w d.args:=by
 obtain⟨_,x,hx,rfl⟩:=collect_of _ d hd;exact inst_args h (preI_mem hk hj hx)
theorem cellsC_snoc (cs:List dn) (c:dn):yg (cs++[c])=yg cs++c.cells:=by unfold yg;simp
theorem info49:(Tryz.prog.info? 49).map (fun i=>(i.zero,i.size,i.bytes))=some (some (.agg #[.int .i64 0,.slice none 0 0]),2,32):=by kernel_rfl
theorem checks_ok {f:ax} {b:Nat} (hb:b<f.nb):Dx (dx f) f.blocks.2[b]! :=
 ⟨fun c i j hi hj h1 h2=>collect_uniq hi hj h1 h2,fun c hc=>(collect_of _ c hc).1,fun x hx hc=>collect_mem _ x (List.mem_flatMap.2 ⟨_,az hb,hx⟩) hc⟩
theorem collect_any (f:ax) (w:World) (hf:cz w f) (hn:(ze f).length≤100000) (hnb:f.nb≤1000):Calls Tryz.prog 58 #[f.val] w fun e w'=>(∃v,e= .returned v∧w'.ownsRow w.heap.size 49 2 v (dx f).length (yg (dx f)))∧ai w w' []:=by
 obtain⟨i49,hi,he⟩:=Option.map_eq_some_iff.1 info49;simp only[Prod.mk.injEq]at he;obtain⟨hz0,hz1,hz2⟩:=he;obtain⟨a0,c0,a1,c1,a2,c2,e0,e1,e2,hval,h1,HF,HC0,HC1,HC2,HNV,HNP,HNB⟩:=qj hf;rw[hval];clear hval h1 e0 e1 e2 hf HC0 HC1;have HFN:=ag (show dx f=jd (zo f f.nb 0) by rw[preI_end];rfl);generalize dx f=FIN at*;have P0:=ag (preI_zero (f:=f));have PN:=ag (fun k (hk:k<f.nb)=>preI_next hk);have PL:=ag (fun k j (hk:k≤f.nb) (hj:k=f.nb→j=0)=>Nat.le_trans (collect_len (zo f k j)) (Nat.le_trans (preI_len hk hj) hn));have PS:=ag (fun(k j:Nat) (hj:j<f.blocks.2[k]!.insts.2.length)=>preI_snoc (f:=f) hj);obtain⟨HK,Bl⟩:=Cc w 26 #[.slice a0 f.nv c0,.slice a1 f.np c1,.slice a2 f.nb c2];obtain⟨l0,l1,l2⟩:=Bl.o.c3;simp at l0 l1 l2;go_enter Tryz.func58,Tryz.ntmps58;go_upto_region 1 with(fail)
 have hszw:w.heap.size≤(w.alloc (.cells #[.slice a0 f.nv c0,.slice a1 f.np c1,.slice a2 f.nb c2] 26)).heap.size:=(by show _≤(Array.push _ _).size;simp[Array.size_push]);clear l0 l1 l2;generalize(w.alloc (.cells #[.slice a0 f.nv c0,.slice a1 f.np c1,.slice a2 f.nb c2] 26))=W0 at*;have Bl_W0:=Bl;have TW0:=HK;clear HK;have HK:=ag (ai.refl W0 []);obtain⟨l0,l1,l2⟩:=Bl.o.c3;simp at l0 l1 l2;have HSW:=ag hszw;clear hszw;go_wp2;go_loopw [3,12] (fun a' i' wx=>∃k:Nat,k≤f.nb∧i'= .int .i64 k∧wx.ownsRow W0.heap.size 49 2 a' (jd (zo f k 0)).length (yg (jd (zo f k 0)))∧ai W0 wx []) (fun _ i' _=>f.nb -(intOf i').toNat)
 case atStart=>exact⟨0,Nat.zero_le _,rfl,by rw[P0.o];exact World.ownsRow_nil _ _ _ _,HK.o⟩
 case round=>
  obtain⟨k,hk,rfl,hO,hr⟩:=hrel;clear l0 l1 l2;clear Bl HK;have HK:=ag hr;have Bl:=ag (Bl_W0.o.keep hr (by simp));clear hr;obtain⟨l0,l1,l2⟩:=Bl.o.c3;simp at l0 l1 l2;have OO:=ag hO;clear hO;obtain⟨oa,oc,rfl,-,-⟩:=cr OO.o;by_cases hlk:k<f.nb
  ·have hlkz:(k:Int)<(f.nb:Int):=(by omega);obtain⟨yb,yo,e8,hyb,hbc⟩:=HC2.o k (by rw[HNB.o];exact hlk);obtain rfl:=e8;have HBA:=ag (HF.o.block _ (az (l:=f.blocks.2) (k:=k) hlk));have PNk:=ag (PN.o k hlk);have PSk:=ag (fun j=>PS.o k j);have PLk:=ag (fun j=>PL.o k j (by omega) (fun e=>absurd e (by omega)));clear PN PS PL;have y0:=(TW0.o.ak HK.o).cellOf (hbc 0 _ rfl);have y1:=(TW0.o.ak HK.o).cellOf (hbc 1 _ rfl);have y2:=(TW0.o.ak HK.o).cellOf (hbc 2 _ rfl);have y3:=(TW0.o.ak HK.o).cellOf (hbc 3 _ rfl);have y4:=(TW0.o.ak HK.o).cellOf (hbc 4 _ rfl);have y5:=(TW0.o.ak HK.o).cellOf (hbc 5 _ rfl);have y6:=(TW0.o.ak HK.o).cellOf (hbc 6 _ rfl);simp only[Nat.add_zero]at y0;clear hbc HC2;obtain⟨qa,qc,e7,hyl1,hym,hic⟩:=HBA.o.insts.open_;have hyB:f.blocks.2[k]!.insts.2.length≤9223372036854775807:=(by unfold maxLen at hym;omega);clear hyl1 hym;rw[e7]at y2;obtain⟨pa,pc,e6,-,-,-⟩:=HBA.o.phis.open_;rw[e6]at y1;clear e6;have HIC:=ag hic;clear hic e7;have HCA:=ag (fun j d (hd:d∈jd (zo f k j))=>coll_args HF.o (k:=k) (j:=j) (by omega) (fun e=>absurd e (by omega)) hd);generalize f.blocks.2[k]! =y at*;generalize hyn:y.name=yn at*;generalize hyp:y.phis.2.length=pn at*;generalize hyk:y.kind=yk at*;generalize hyv:y.var=yv at*;generalize hy0:y.to0=yt0 at*;generalize hy1:y.to1=yt1 at*;clear hyn hyp hyk hyv hy0 hy1;generalize hyl:y.insts.2.length=yil at*;have HYL:=ag hyl;clear hyl;go_upto_region 5 with(fail)
   clear y0 y1 y2 y3 y4 y5 y6;have kx:ai wr (wr.alloc (.cells #[.string yn,.slice pa pn pc,.slice qa yil qc,.int .i64 yk,.int .i64 yv,.int .i64 yt0,.int .i64 yt1] 38)) []:=(ai.refl wr []).alloc _;replace OO:=ag (au OO.o kx (by simp));clear kx;clear l0 l1 l2;have bmx:=Blk.new wr 38 #[.string yn,.slice pa pn pc,.slice qa yil qc,.int .i64 yk,.int .i64 yv,.int .i64 yt0,.int .i64 yt1];have k3:ai wr (wr.alloc (.cells #[.string yn,.slice pa pn pc,.slice qa yil qc,.int .i64 yk,.int .i64 yv,.int .i64 yt0,.int .i64 yt1] 38)) []:=(ai.refl wr []).alloc _;replace Bl:=Bl.kb k3;replace HK:=HK.kt k3;have Bx:=ag bmx;clear k3 bmx;obtain⟨l0,l1,l2⟩:=Bl.o.c3;obtain⟨x0,x1,x2,x3,x4,x5,x6⟩:=Bx.o.c7;simp at l0 l1 l2 x0 x1 x2 x3 x4 x5 x6;generalize hWX:(wr.alloc (.cells #[.string yn,.slice pa pn pc,.slice qa yil qc,.int .i64 yk,.int .i64 yv,.int .i64 yt0,.int .i64 yt1] 38))=W4 at*;clear hWX;generalize wr.heap.size=bx at*;clear l0 l1 l2 x0 x1 x2 x3 x4 x5 x6;obtain⟨l0,l1,l2⟩:=Bl.o.c3;obtain⟨x0,x1,x2,x3,x4,x5,x6⟩:=Bx.o.c7;simp at l0 l1 l2 x0 x1 x2 x3 x4 x5 x6;go_wp2;go_loopw [3,19] (fun a' i' wx=>∃j:Nat,j≤yil∧i'= .int .i64 j∧wx.ownsRow W0.heap.size 49 2 a' (jd (zo f k j)).length (yg (jd (zo f k j)))∧Blk wx bx 38 #[.string yn,.slice pa pn pc,.slice qa yil qc,.int .i64 yk,.int .i64 yv,.int .i64 yt0,.int .i64 yt1]∧ai W0 wx []) (fun _ i' _=>yil -(intOf i').toNat)
   case atStart=>exact⟨0,Nat.zero_le _,rfl,OO.o,Bx.o,HK.o⟩
   case round=>
    obtain⟨j,hj,rfl,hO,hX,hr⟩:=hrel;clear OO;clear l0 l1 l2 x0 x1 x2 x3 x4 x5 x6;clear Bl Bx HK;have HK:=ag hr;have Bl:=ag (Bl_W0.o.keep hr (by simp));have Bx:=ag hX;clear hr hX;obtain⟨l0,l1,l2⟩:=Bl.o.c3;obtain⟨x0,x1,x2,x3,x4,x5,x6⟩:=Bx.o.c7;simp at l0 l1 l2 x0 x1 x2 x3 x4 x5 x6;have OO:=ag hO;clear hO;obtain⟨oa,oc,rfl,-,-⟩:=cr OO.o;by_cases hlj:j<yil
    ·have hljz:(j:Int)<(yil:Int):=(by omega);obtain⟨ib,io,e8,hib,hcell⟩:=HIC.o j (by first |exact hlj|(rw[HYL.o];exact hlj));obtain rfl:=e8;have hxa:=HBA.o.inst _ (az (l:=y.insts.2) (k:=j) (by first |exact hlj|(rw[HYL.o];exact hlj)));have PSj:=ag (PSk.o j (by first |exact hlj|(rw[HYL.o];exact hlj)));have PLj:=ag (PLk.o j);have HCj:=ag (HCA.o j);clear PSk PLk HCA;have n0:=(TW0.o.ak HK.o).cellOf (hcell 0 _ rfl);have n1:=(TW0.o.ak HK.o).cellOf (hcell 1 _ rfl);have n2:=(TW0.o.ak HK.o).cellOf (hcell 2 _ rfl);have n3:=(TW0.o.ak HK.o).cellOf (hcell 3 _ rfl);simp only[Nat.add_zero]at n0;obtain⟨ua,va1,e1,-,-,-⟩:=bu.open_ hxa;rw[e1]at n2;have HXA:=ag (show bu w y.insts.2[j]!.args from hxa);have CA:=ag (fun W v (h1:bu W y.insts.2[j]!.chk.args) h2 h3=>any_checks y.insts.2[j]!.chk v (jd (zo f k j)) W h1 h2 h3);have HCE:=ag (show y.insts.2[j]!.chk.args.1= .slice ua y.insts.2[j]!.args.2.length va1 from e1);have HCO:=ag (show y.insts.2[j]!.chk.op=y.insts.2[j]!.op from rfl);have HCC:=ag (show y.insts.2[j]!.chk.cells=[.int .i64 y.insts.2[j]!.op,.slice ua y.insts.2[j]!.args.2.length va1] by unfold dn.cells;rw[HCE.o];rfl);rw[HCE.o,HCO.o]at CA;have HAD:=ag (show jd (zo f k (j+1))=addC (jd (zo f k j)) y.insts.2[j]! by rw[PSj.o,Ab]);clear PSj e1 hcell HIC hxa HCO HCE;generalize y.insts.2[j]! =x at*;have HXC:=ag (show bu w x.chk.args from HXA.o);have HAC:=ag (show addC (jd (zo f k j)) x=if(qx x.op&& !((jd (zo f k j)).any (ko x.chk)))=true then jd (zo f k j)++[x.chk]else jd (zo f k j)from rfl);generalize jd (zo f k j)=CS at*;go_upto_region 8 with(fail)
     clear n0 n1 n2 n3;replace OO:=ag (au OO.o ((ai.refl wr []).alloc (.cells #[.int .i64 x.op,.int .i64 x.dst,.slice ua x.args.2.length va1,.int .i64 x.num] 43)) (by simp));clear l0 l1 l2 x0 x1 x2 x3 x4 x5 x6;have bmx:=Blk.new wr 43 #[.int .i64 x.op,.int .i64 x.dst,.slice ua x.args.2.length va1,.int .i64 x.num];have k3:ai wr (wr.alloc (.cells #[.int .i64 x.op,.int .i64 x.dst,.slice ua x.args.2.length va1,.int .i64 x.num] 43)) []:=(ai.refl wr []).alloc _;replace Bl:=Bl.kb k3;replace Bx:=Bx.kb k3;replace HK:=HK.kt k3;have Bi:=ag bmx;clear k3 bmx;obtain⟨l0,l1,l2⟩:=Bl.o.c3;obtain⟨x0,x1,x2,x3,x4,x5,x6⟩:=Bx.o.c7;obtain⟨i0,i1,i2,i3⟩:=Bi.o.c4;simp at l0 l1 l2 x0 x1 x2 x3 x4 x5 x6 i0 i1 i2 i3;generalize hWX:(wr.alloc (.cells #[.int .i64 x.op,.int .i64 x.dst,.slice ua x.args.2.length va1,.int .i64 x.num] 43))=W5 at*;clear hWX;generalize wr.heap.size=bi at*;clear l0 l1 l2 x0 x1 x2 x3 x4 x5 x6 i0 i1 i2 i3;obtain⟨l0,l1,l2⟩:=Bl.o.c3;obtain⟨x0,x1,x2,x3,x4,x5,x6⟩:=Bx.o.c7;obtain⟨i0,i1,i2,i3⟩:=Bi.o.c4;simp at l0 l1 l2 x0 x1 x2 x3 x4 x5 x6 i0 i1 i2 i3;go_upto_region 9 with(fail)
     replace OO:=ag (au OO.o ((ai.refl W5 []).alloc (.cells #[.int .i64 x.op,.slice ua x.args.2.length va1] 49)) (by simp));clear l0 l1 l2 x0 x1 x2 x3 x4 x5 x6 i0 i1 i2 i3;have bmx:=Blk.new W5 49 #[.int .i64 x.op,.slice ua x.args.2.length va1];have k3:ai W5 (W5.alloc (.cells #[.int .i64 x.op,.slice ua x.args.2.length va1] 49)) []:=(ai.refl W5 []).alloc _;replace Bl:=Bl.kb k3;replace Bx:=Bx.kb k3;replace Bi:=Bi.kb k3;replace HK:=HK.kt k3;have Bc:=ag bmx;clear k3 bmx;obtain⟨l0,l1,l2⟩:=Bl.o.c3;obtain⟨x0,x1,x2,x3,x4,x5,x6⟩:=Bx.o.c7;obtain⟨i0,i1,i2,i3⟩:=Bi.o.c4;obtain⟨c0,c1⟩:=Bc.o.c2;simp at l0 l1 l2 x0 x1 x2 x3 x4 x5 x6 i0 i1 i2 i3 c0 c1;generalize hWX:(W5.alloc (.cells #[.int .i64 x.op,.slice ua x.args.2.length va1] 49))=W6 at*;clear hWX;generalize W5.heap.size=bc at*;clear l0 l1 l2 x0 x1 x2 x3 x4 x5 x6 i0 i1 i2 i3 c0 c1;obtain⟨l0,l1,l2⟩:=Bl.o.c3;obtain⟨x0,x1,x2,x3,x4,x5,x6⟩:=Bx.o.c7;obtain⟨i0,i1,i2,i3⟩:=Bi.o.c4;obtain⟨c0,c1⟩:=Bc.o.c2;simp at l0 l1 l2 x0 x1 x2 x3 x4 x5 x6 i0 i1 i2 i3 c0 c1;have CK:=ag (Du x.op);generalize hxal:x.args.2.length=xal at*;clear hxal;cases hck:qx x.op with
     |false=>
      rw[hck]at CK HAC;clear hck CA;go_wp2_with (first |(go_at_call 67;refine(CK.o _).mono ?_;rintro e w3 ⟨rfl,rfl⟩))
      go_roundw
      case rel=>exact⟨j+1,by omega,by go_num,by rw[HAD.o,HAC.o,if_neg (by simp)];exact OO.o,Bx.o,HK.o⟩
      case measure=>simp[intOf];omega
     |true=>
      rw[hck]at CK HAC;clear hck;generalize CS.any (ko x.chk)=an at*;cases an with
      |true=>
       go_wp2_with (first |(go_at_call 67;refine(CK.o _).mono ?_;rintro e w3 ⟨rfl,rfl⟩)|(go_at_call 98;refine(CA.o _ _ (Row.keep HXC.o (TW0.o.ak HK.o)) (zu (zh _) (by omega) OO.o) (fun d hd=>Row.keep (HCj.o d hd) (TW0.o.ak HK.o))).mono ?_;rintro e w3 ⟨rfl,k3⟩;replace OO:=ag (au OO.o k3 (by simp));clear l0 l1 l2 x0 x1 x2 x3 x4 x5 x6 i0 i1 i2 i3 c0 c1;replace Bl:=Bl.kb k3;replace Bx:=Bx.kb k3;replace Bi:=Bi.kb k3;replace Bc:=Bc.kb k3;replace HK:=HK.kt k3;obtain⟨l0,l1,l2⟩:=Bl.o.c3;obtain⟨x0,x1,x2,x3,x4,x5,x6⟩:=Bx.o.c7;obtain⟨i0,i1,i2,i3⟩:=Bi.o.c4;obtain⟨c0,c1⟩:=Bc.o.c2;simp at l0 l1 l2 x0 x1 x2 x3 x4 x5 x6 i0 i1 i2 i3 c0 c1;clear k3))
       go_roundw
       case rel=>exact⟨j+1,by omega,by go_num,by rw[HAD.o,HAC.o,if_neg (by simp)];exact OO.o,Bx.o,HK.o⟩
       case measure=>simp[intOf];omega
      |false=>
       go_upto_region 10 with(first |(go_at_call 67;refine(CK.o _).mono ?_;rintro e w3 ⟨rfl,rfl⟩)|(go_at_call 98;refine(CA.o _ _ (Row.keep HXC.o (TW0.o.ak HK.o)) (zu (zh _) (by omega) OO.o) (fun d hd=>Row.keep (HCj.o d hd) (TW0.o.ak HK.o))).mono ?_;rintro e w3 ⟨rfl,k3⟩;replace OO:=ag (au OO.o k3 (by simp));clear l0 l1 l2 x0 x1 x2 x3 x4 x5 x6 i0 i1 i2 i3 c0 c1;replace Bl:=Bl.kb k3;replace Bx:=Bx.kb k3;replace Bi:=Bi.kb k3;replace Bc:=Bc.kb k3;replace HK:=HK.kt k3;obtain⟨l0,l1,l2⟩:=Bl.o.c3;obtain⟨x0,x1,x2,x3,x4,x5,x6⟩:=Bx.o.c7;obtain⟨i0,i1,i2,i3⟩:=Bi.o.c4;obtain⟨c0,c1⟩:=Bc.o.c2;simp at l0 l1 l2 x0 x1 x2 x3 x4 x5 x6 i0 i1 i2 i3 c0 c1;clear k3))
       have HSZ:=ag HK.o.size;go_wp2_with (first |(at_builtin;go_must(refine jr rfl (.tmp 38) (.tmp 40) 29 rfl W0.heap.size 49 i49 (.agg #[.int .i64 0,.slice none 0 0]) 2 32 Tryz.underlying29 hi hz0 hz1 hz2 rfl (by decide) (.slice oa CS.length oc) CS.length (yg CS) rfl (au OO.o ((ai.refl w3 []).alloc _) (by simp)) (.slice (some ⟨w3.heap.size,0,none⟩) 1 1) ([x.chk].map dn.cells) rfl (by rw[List.map_singleton,HCC.o];exact je (Blk.new w3 49 _)) (zh _) (by rw[List.map_singleton,HCC.o];intro e he u hu;rw[List.mem_singleton.1 he]at hu;rcases List.mem_cons.1 hu with h|h;(rw[h];rfl);(rw[List.mem_singleton.1 h];rfl)) (by simp only[List.length_map,List.length_singleton];have h9:=PLj.o;unfold maxLen;omega) (by simp only[List.length_map,List.length_singleton];have h9:=PLj.o;omega) (by rw[jh];have h9:=(HSZ.o);omega) ?_);intro v1 w4 hown hgrow;have hBx:=ag (xy Bx.o OO.o (by decide) hgrow);have hKx:=ag (ui HK.o OO.o (Nat.le_refl _) hgrow);have hO4:=ag hown;clear hown hgrow))
       go_roundw
       case rel=>exact⟨j+1,by omega,by go_num,by rw[HAD.o,HAC.o,if_pos (by simp),List.length_append,cellsC_snoc,List.length_singleton];have h9:=hO4.out;simp only[List.length_map,List.length_singleton,List.map_cons,List.map_nil,List.flatten_cons,List.flatten_nil,List.append_nil]at h9;exact h9,hBx.out,hKx.out⟩
       case measure=>simp[intOf];omega
    ·have hljz:¬(j:Int)<(yil:Int):=(by omega);obtain rfl:j=yil:=by omega
     go_wp2;go_roundw
     case rel=>exact⟨k+1,by omega,by go_num,by rw[PNk.o];exact OO.o,HK.o⟩
     case measure=>simp[intOf];omega
  ·have hlkz:¬(k:Int)<(f.nb:Int):=(by omega);obtain rfl:k=f.nb:=by omega
   go_wp2;go_ret;exact⟨⟨_,rfl,by rw[HFN.o];exact dm OO.o HSW.o⟩,(TW0.o.ak HK.o)⟩
end Go.Proofs.YtjllbchfojonhaaGreatDoor
