/- Package typing: Count; contract. -/
import Derived.Test.YtjllbchfojonhaaGreatDoorFewX
import Derived.Laws.StructEq
import Derived.ChangeKeysEq
set_option linter.unusedVariables false
set_option linter.unusedSimpArgs false
set_option maxRecDepth 100000
set_option maxHeartbeats 200000000
namespace Go.Proofs.YtjllbchfojonhaaGreatDoor
open Go.RowKit
def Ae (l:List Int) (t:Nat):Nat:=(l.filter fun op=>qx op&&(op -17==(t:Int))).length
def cV (l:List Int) (t:Nat):Value:= .int .i64 (Ae l t:Nat)
def cntV (l:List Int):Array Value:=#[cV l 0,cV l 1,cV l 2,cV l 3,cV l 4,cV l 5,cV l 6,cV l 7]
theorem cnt_le (l:List Int) (t:Nat):Ae l t≤l.length:=List.length_filter_le ..
theorem cnt_snoc (l:List Int) (op:Int) (t:Nat):Ae (l++[op]) t=Ae l t+if(qx op&&(op -17==(t:Int)))=true then 1 else 0:=by
  unfold Ae;rw[List.filter_append,List.length_append]
  congr 1
  cases h:(qx op&&(op -17==(t:Int)))<;>simp[h]
theorem cntV_no (l:List Int) (op:Int) (h:qx op=false):cntV (l++[op])=cntV l:=by
  unfold cntV cV;simp only[cnt_snoc,h,Bool.false_and,Bool.false_eq_true,if_false,Nat.add_zero]
theorem cntV_yes (l:List Int) (op:Int) (h:qx op=true):cntV (l++[op])=(cntV l).setIfInBounds (op -17).toNat (.int .i64 ((Ae l (op -17).toNat+1:Nat):Int)):=by
  have h2:18≤op∧op≤24:=(by simpa[qx]using h);have h3:op=18∨op=19∨op=20∨op=21∨op=22∨op=23∨op=24:=(by omega);unfold cntV cV;simp only[cnt_snoc,h,Bool.true_and];rcases h3 with rfl|rfl|rfl|rfl|rfl|rfl|rfl<;>simp
theorem cntV_at (l:List Int) (t:Nat) (h:t<8):(cntV l)[t]? =some (cV l t):=by
  unfold cntV;have:t=0∨t=1∨t=2∨t=3∨t=4∨t=5∨t=6∨t=7:=(by omega);rcases this with rfl|rfl|rfl|rfl|rfl|rfl|rfl|rfl<;>rfl
def opsB (b:df):List Int:=b.insts.2.map cu.op
def opsT (f:ax) (k:Nat):List Int:=(f.blocks.2.take k).flatMap opsB
theorem opsT_step (f:ax) (k:Nat) (hk:k<f.nb):opsT f (k+1)=opsT f k++opsB f.blocks.2[k]! :=by
  unfold opsT;rw[List.take_succ_eq_append_getElem (show k<f.blocks.2.length from hk),getElem!_pos f.blocks.2 k hk,List.flatMap_append];simp;try rfl
theorem insts_take (y:df) (j:Nat) (hj:j<y.insts.2.length):(opsB y).take (j+1)=(opsB y).take j++[y.insts.2[j]!.op]:=by
  unfold opsB;rw[List.take_succ_eq_append_getElem (by simpa using hj),getElem!_pos y.insts.2 j hj];simp
theorem trap_any (op:Int) (w:World) (hop: -9223372036854775808≤op∧op≤9223372036854775807):Calls Tryz.prog 107 #[.int .i64 op] w fun e w'=>e= .returned (.int .i64 (if qx op=true then op -17 else 0))∧w=w':=by
 have C:=ag (fun w=>Du op w);rcases Bool.eq_false_or_eq_true (qx op)with h|h
 ·have hb:18≤op∧op≤24:=(by simpa[qx]using h);obtain⟨h3,h4⟩:=hb;rw[h]at C ⊢;rw[if_pos rfl];clear h hop;go_enter Tryz.func107,Tryz.ntmps107;go_wp2_with fail
  refine(C.o _).mono ?_;rintro e w' ⟨rfl,rfl⟩;go_wp2;go_ret;exact⟨zw (by omega),rfl⟩
 ·rw[h]at C ⊢;rw[if_neg (by decide)];clear h hop;go_enter Tryz.func107,Tryz.ntmps107;go_wp2_with fail
  refine(C.o _).mono ?_;rintro e w' ⟨rfl,rfl⟩;go_wp2;go_ret;exact⟨rfl,rfl⟩
theorem trap_at (op:Int) (h:qx op=true) (w:World):Calls Tryz.prog 107 #[.int .i64 op] w fun e w'=>e= .returned (.int .i64 (((op -17).toNat:Nat):Int))∧w=w':=by
  have h2:18≤op∧op≤24:=(by simpa[qx]using h);have:=trap_any op w (by omega);rw[if_pos h]at this;rw[show(((op -17).toNat:Nat):Int)=op -17 by omega];exact this
theorem blk_other {W:World} {g h:Nat} {t:TypeId} {cs:Array Value} (hb:Blk W g t cs) (hne:g≠h) (i:Nat) (u:Value):Blk (W.setCell ⟨h,i,none⟩ u) g t cs:=by
  unfold Blk at hb ⊢;rw[World.setCell];simp[Array.getElem?_modify,hb,Ne.symm hne]
theorem guards_any (f:ax) (w:World) (hf:cz w f) (hfew:yu f):Calls Tryz.prog 70 #[f.val] w fun e w'=>e= .returned (.agg (cntV (f.blocks.2.flatMap opsB)))∧ai w w' []:=by
  obtain⟨a0,c0,a1,c1,a2,c2,e0,e1,e2,hval,h1,HF,HC0,HC1,HC2,HNV,HNP,HNB⟩:=qj hf;have HFB:=ag hfew.block;have hnbF:=hfew.nb;rw[hval];clear e0 e1 e2 hval h1 hf hfew;have hk0:ai w (w.alloc (.cells #[.slice a0 f.nv c0,.slice a1 f.np c1,.slice a2 f.nb c2] 26)) []:=(ai.refl _ []).alloc _;have hk1:ai (w.alloc (.cells #[.slice a0 f.nv c0,.slice a1 f.np c1,.slice a2 f.nb c2] 26)) ((w.alloc (.cells #[.slice a0 f.nv c0,.slice a1 f.np c1,.slice a2 f.nb c2] 26)).alloc (.cells #[.int .i64 0,.int .i64 0,.int .i64 0,.int .i64 0,.int .i64 0,.int .i64 0,.int .i64 0,.int .i64 0] 65)) []:=(ai.refl _ []).alloc _;have hk2:ai ((w.alloc (.cells #[.slice a0 f.nv c0,.slice a1 f.np c1,.slice a2 f.nb c2] 26)).alloc (.cells #[.int .i64 0,.int .i64 0,.int .i64 0,.int .i64 0,.int .i64 0,.int .i64 0,.int .i64 0,.int .i64 0] 65)) (((w.alloc (.cells #[.slice a0 f.nv c0,.slice a1 f.np c1,.slice a2 f.nb c2] 26)).alloc (.cells #[.int .i64 0,.int .i64 0,.int .i64 0,.int .i64 0,.int .i64 0,.int .i64 0,.int .i64 0,.int .i64 0] 65)).alloc (.cells #[.int .i64 0,.int .i64 0,.int .i64 0,.int .i64 0,.int .i64 0,.int .i64 0,.int .i64 0,.int .i64 0] 65)) []:=(ai.refl _ []).alloc _;have bb0:=Blk.new w 26 #[.slice a0 f.nv c0,.slice a1 f.np c1,.slice a2 f.nb c2];have bb1:=Blk.new (w.alloc (.cells #[.slice a0 f.nv c0,.slice a1 f.np c1,.slice a2 f.nb c2] 26)) 65 #[.int .i64 0,.int .i64 0,.int .i64 0,.int .i64 0,.int .i64 0,.int .i64 0,.int .i64 0,.int .i64 0];have bb2:=Blk.new ((w.alloc (.cells #[.slice a0 f.nv c0,.slice a1 f.np c1,.slice a2 f.nb c2] 26)).alloc (.cells #[.int .i64 0,.int .i64 0,.int .i64 0,.int .i64 0,.int .i64 0,.int .i64 0,.int .i64 0,.int .i64 0] 65)) 65 #[.int .i64 0,.int .i64 0,.int .i64 0,.int .i64 0,.int .i64 0,.int .i64 0,.int .i64 0,.int .i64 0];rw[show(w.alloc (.cells #[.slice a0 f.nv c0,.slice a1 f.np c1,.slice a2 f.nb c2] 26)).heap.size=w.heap.size+1 from Array.size_push _]at bb1;rw[show((w.alloc (.cells #[.slice a0 f.nv c0,.slice a1 f.np c1,.slice a2 f.nb c2] 26)).alloc (.cells #[.int .i64 0,.int .i64 0,.int .i64 0,.int .i64 0,.int .i64 0,.int .i64 0,.int .i64 0,.int .i64 0] 65)).heap.size=w.heap.size+1+1 from(Array.size_push _).trans (congrArg (fun z=>z+1) (Array.size_push _))]at bb2;have BL:=ag ((bb0.keep hk1 (by simp)).keep hk2 (by simp));have BR:=ag (bb1.keep hk2 (by simp));have BC:=ag bb2;have HK:=ag ((hk0.ak hk1).ak hk2);have l2:=BL.o.cell 2;simp at l2;clear hk0 hk1 hk2 bb0 bb1 bb2;go_enter Tryz.func70,Tryz.ntmps70;go_wp2;clear l2;generalize(((w.alloc (.cells #[.slice a0 f.nv c0,.slice a1 f.np c1,.slice a2 f.nb c2] 26)).alloc (.cells #[.int .i64 0,.int .i64 0,.int .i64 0,.int .i64 0,.int .i64 0,.int .i64 0,.int .i64 0,.int .i64 0] 65)).alloc (.cells #[.int .i64 0,.int .i64 0,.int .i64 0,.int .i64 0,.int .i64 0,.int .i64 0,.int .i64 0,.int .i64 0] 65))=W0 at*;go_loopw [11] (fun i wr=>∃k:Nat,k≤f.nb∧i= .int .i64 k∧ai w wr []∧Blk wr w.heap.size 26 #[.slice a0 f.nv c0,.slice a1 f.np c1,.slice a2 f.nb c2]∧Blk wr (w.heap.size+1) 65 #[.int .i64 0,.int .i64 0,.int .i64 0,.int .i64 0,.int .i64 0,.int .i64 0,.int .i64 0,.int .i64 0]∧Blk wr (w.heap.size+1+1) 65 (cntV (opsT f k))∧(opsT f k).length≤1000*k) (fun i _=>f.nb -(intOf i).toNat)
  case atStart=>exact⟨0,Nat.zero_le _,rfl,HK.o,BL.o,BR.o,BC.o,Nat.zero_le _⟩
  case round=>
    clear HK BL BR BC;obtain⟨k,hk,rfl,hK,hL,hR,hC,hlen⟩:=hrel;have HK:=ag hK;have BL:=ag hL;have BR:=ag hR;have BC:=ag hC;have hltC:=hC.lt;clear hK hL hR hC;by_cases hlt:k<f.nb
    · have hltz:(k:Int)<(f.nb:Int):=by omega
      obtain⟨bb,off,rfl,hbl,hcell⟩:=HC2.o k (by rw[HNB.o];exact hlt);have n0:=HK.o.cellOf (hcell 0 _ rfl);have n1:=HK.o.cellOf (hcell 1 _ rfl);have n2:=HK.o.cellOf (hcell 2 _ rfl);have n3:=HK.o.cellOf (hcell 3 _ rfl);have n4:=HK.o.cellOf (hcell 4 _ rfl);have n5:=HK.o.cellOf (hcell 5 _ rfl);have n6:=HK.o.cellOf (hcell 6 _ rfl);simp only[Nat.add_zero]at n0;have hyb:=HF.o.block _ (az (l:=f.blocks.2) (k:=k) (by rw[HNB.o];exact hlt));have hfb:=(HFB.o _ (az (l:=f.blocks.2) (k:=k) (by rw[HNB.o];exact hlt))).2;have HST:=ag (opsT_step f k hlt);clear hcell HC2;generalize hy:f.blocks.2[k]! =y at*;clear hy;obtain⟨pa,pc,pe,-,-,-⟩:=hyb.phis.open_;obtain⟨qa,qc,qe,-,-,hqc⟩:=hyb.insts.open_;have HYB:=ag hyb;rw[pe]at n1;rw[qe]at n2;have HQC:=ag hqc;clear hyb pe qe hqc;generalize hPN:y.phis.2.length=pn at*;generalize hQN:y.insts.2.length=qn at*;have HQN:=ag hQN;clear hPN hQN;generalize y.name=yn at*;generalize y.kind=yk at*;generalize y.var=yv at*;generalize y.to0=y0 at*;generalize y.to1=y1 at*;generalize hLL:opsT f k=LL at*;have HLL:=ag hLL;clear hLL;have TWo:=HK;have k3:ai wr (wr.alloc (.cells #[.string yn,.slice pa pn pc,.slice qa qn qc,.int .i64 yk,.int .i64 yv,.int .i64 y0,.int .i64 y1] 38)) []:=(ai.refl wr []).alloc _;have BMx:=ag (Blk.new wr 38 #[.string yn,.slice pa pn pc,.slice qa qn qc,.int .i64 yk,.int .i64 yv,.int .i64 y0,.int .i64 y1]);have BLx:=ag (BL.o.keep k3 (by simp));have BRx:=ag (BR.o.keep k3 (by simp));have BCx:=ag (BC.o.keep k3 (by simp));have HKx:=ag (HK.o.ak k3);clear k3 HK BL BR BC;have BM:=BMx;have HK:=HKx;have BL:=BLx;have BR:=BRx;have BC:=BCx;clear BMx HKx BLx BRx BCx;have l2:=BL.o.cell 2;have m2:=BM.o.cell 2;simp at l2 m2;go_wp2;clear l2 m2 n0 n1 n2 n3 n4 n5 n6;obtain⟨wo,hwo⟩:∃wo:World,wo=wr:=⟨_,rfl⟩;subst hwo;have TWB:Hid (ai wo (wo.alloc (.cells #[.string yn,.slice pa pn pc,.slice qa qn qc,.int .i64 yk,.int .i64 yv,.int .i64 y0,.int .i64 y1] 38)) []):=(ai.refl wo []).alloc _;generalize wo.alloc (.cells #[.string yn,.slice pa pn pc,.slice qa qn qc,.int .i64 yk,.int .i64 yv,.int .i64 y0,.int .i64 y1] 38)=WB at*;go_loopw [18] (fun i wr=>∃j:Nat,j≤qn∧i= .int .i64 j∧ai w wr []∧Blk wr w.heap.size 26 #[.slice a0 f.nv c0,.slice a1 f.np c1,.slice (some ⟨bb,off,none⟩) f.nb c2]∧Blk wr (w.heap.size+1) 65 #[.int .i64 0,.int .i64 0,.int .i64 0,.int .i64 0,.int .i64 0,.int .i64 0,.int .i64 0,.int .i64 0]∧Blk wr (w.heap.size+1+1) 65 (cntV (LL++(opsB y).take j))∧Blk wr wo.heap.size 38 #[.string yn,.slice pa pn pc,.slice qa qn qc,.int .i64 yk,.int .i64 yv,.int .i64 y0,.int .i64 y1]) (fun i _=>qn -(intOf i).toNat)
      case atStart=>exact⟨0,Nat.zero_le _,rfl,HK.o,BL.o,BR.o,by simpa using BC.o,BM.o⟩
      case round=>
        clear HK BL BR BC BM;obtain⟨j,hj,rfl,hK,hL,hR,hC,hM⟩:=hrel;have HK:=ag hK;have BL:=ag hL;have BR:=ag hR;have BC:=ag hC;have BM:=ag hM;clear hK hL hR hC hM;by_cases hltj:j<qn
        · have hltjz:(j:Int)<(qn:Int):=by omega
          have HIT:=ag (insts_take y j (by rw[HQN.o];exact hltj));obtain⟨pb,po,rfl,hpb,hpcell⟩:=HQC.o j hltj;have n0:=HK.o.cellOf (hpcell 0 _ rfl);have n1:=HK.o.cellOf (hpcell 1 _ rfl);have n2:=HK.o.cellOf (hpcell 2 _ rfl);have n3:=HK.o.cellOf (hpcell 3 _ rfl);simp only[Nat.add_zero]at n0;have hpa:=HYB.o.inst _ (az (l:=y.insts.2) (k:=j) (by rw[HQN.o];exact hltj));clear hpcell HQC;generalize y.insts.2[j]! =p at*;obtain⟨u1,v1,e1,-⟩:=bu.open_ hpa;rw[e1]at n2;clear e1 hpa;generalize p.args.2.length=pna at*;generalize p.op=pop at*;generalize p.dst=pdst at*;generalize p.num=pnum at*;generalize hM:LL++(opsB y).take j=MM at*;have HMM:=ag (show LL++(opsB y).take (j+1)=MM++[pop] by rw[HIT.o,←List.append_assoc,hM]);have hMl:MM.length≤1000*k+j:=(by rw[←hM,List.length_append,List.length_take];omega);clear hM;have k3:ai wr (wr.alloc (.cells #[.int .i64 pop,.int .i64 pdst,.slice u1 pna v1,.int .i64 pnum] 43)) []:=(ai.refl wr []).alloc _;have BQx:=ag (Blk.new wr 43 #[.int .i64 pop,.int .i64 pdst,.slice u1 pna v1,.int .i64 pnum]);have BLx:=ag (BL.o.keep k3 (by simp));have BRx:=ag (BR.o.keep k3 (by simp));have BCx:=ag (BC.o.keep k3 (by simp));have BMx:=ag (BM.o.keep k3 (by simp));have HKx:=ag (HK.o.ak k3);clear k3 HK BL BR BC BM;have BQ:=BQx;have HK:=HKx;have BL:=BLx;have BR:=BRx;have BC:=BCx;have BM:=BMx;clear BQx HKx BLx BRx BCx BMx;have q0:=BQ.o.cell 0;simp at q0;have CK:=ag (fun w=>Du pop w);cases hck:qx pop with
          |false=>
            rw[hck]at CK;go_wp2_with (go_at_call 67;refine(CK.o _).mono ?_;rintro e w3 ⟨rfl,rfl⟩)
            go_roundw
            case rel=>exact⟨j+1,by omega,by go_num,HK.o,BL.o,BR.o,by rw[HMM.o,cntV_no _ _ hck];exact BC.o,BM.o⟩
            case measure=>simp[intOf];omega
          |true=>
            have CT:=ag (fun w=>trap_at pop hck w);have HCV:=ag (cntV_yes MM pop hck);have hr8:18≤pop∧pop≤24:=(by simpa[qx]using hck);rw[hck]at CK;generalize htt:(pop -17).toNat=tt at*;have ht8:tt<8:=(by omega);have ht8I:(tt:Int)<8:=(by omega);have ht0I:(0:Int)≤(tt:Int):=(by omega);clear htt;have hcl:=cnt_le MM tt;have ct0:=BC.o.cell tt;rw[cntV_at _ _ ht8]at ct0;have f0:=BC.o.frozen tt;unfold cV at ct0;have hnk:(Ae MM tt:Int)+1≤9223372036854775807:=(by have:=hfb;omega);have hC2:=BC.o.gu tt (.int .i64 ((Ae MM tt+1:Nat):Int));rw[←HCV.o]at hC2;have HC9:=ag hC2;clear hC2 HCV;generalize Ae MM tt=cc at*;go_wp2_with (first |(go_at_call 67;refine(CK.o _).mono ?_;rintro e w3 ⟨rfl,rfl⟩)|(go_at_call 107;refine(CT.o _).mono ?_;rintro e w3 ⟨rfl,rfl⟩))
            have hsz:=HK.o.size;go_roundw
            case rel=>
              have h9:=HC9.o;rw[Int.natCast_add]at h9;refine⟨j+1,by omega,by go_num,HK.o.setCell (.inr (by show w.heap.size≤w.heap.size+1+1;omega)) _,blk_other BL.o (by omega) _ _,blk_other BR.o (by omega) _ _,by rw[HMM.o];exact h9,blk_other BM.o (by omega) _ _⟩
            case measure=>simp[intOf];omega
        · have hltjz:¬(j:Int)<(qn:Int):=by omega
          obtain rfl:qn=j:=by omega
          have hfin:LL++(opsB y).take qn=opsT f (k+1):=(by rw[HST.o,show(opsB y).take qn=opsB y from List.take_of_length_le (by unfold opsB;rw[List.length_map,HQN.o];exact Nat.le_refl _)]);have HFI:=ag hfin;clear hfin;have hlen2:Hid ((opsT f (k+1)).length≤1000*(k+1)):=(by show _≤_;rw[HST.o,List.length_append];unfold opsB;rw[List.length_map,HQN.o];omega);go_wp2;go_roundw
          case rel=>exact⟨k+1,by omega,by go_num,HK.o,BL.o,BR.o,by rw[←HFI.o];exact BC.o,hlen2.out⟩
          case measure=>simp[intOf];omega
    · have hltz:¬(k:Int)<(f.nb:Int):=by omega
      obtain rfl:f.nb=k:=by omega
      clear HC2;have HALL:=ag (show opsT f f.nb=f.blocks.2.flatMap opsB by unfold opsT;rw[show f.blocks.2.take f.nb=f.blocks.2 by rw[←HNB.o];exact List.take_length]);rw[HALL.o]at BC;clear hlen;generalize hAA:f.blocks.2.flatMap opsB=AA at*;have HAA:=ag hAA;clear hAA;have HCV:=ag (show cntV AA=#[cV AA 0,cV AA 1,cV AA 2,cV AA 3,cV AA 4,cV AA 5,cV AA 6,cV AA 7]from rfl);have hdd0:=HCV.o;have bc:Blk wr (w.heap.size+1+1) 65 #[.int .i64 (Ae AA 0:Nat),.int .i64 (Ae AA 1:Nat),.int .i64 (Ae AA 2:Nat),.int .i64 (Ae AA 3:Nat),.int .i64 (Ae AA 4:Nat),.int .i64 (Ae AA 5:Nat),.int .i64 (Ae AA 6:Nat),.int .i64 (Ae AA 7:Nat)]:=BC.o;have c0:=bc.cell 0;have c1:=bc.cell 1;have c2:=bc.cell 2;have c3:=bc.cell 3;have c4:=bc.cell 4;have c5:=bc.cell 5;have c6:=bc.cell 6;have c7:=bc.cell 7;have d0:=BR.o.cell 0;have d1:=BR.o.cell 1;have d2:=BR.o.cell 2;have d3:=BR.o.cell 3;have d4:=BR.o.cell 4;have d5:=BR.o.cell 5;have d6:=BR.o.cell 6;have d7:=BR.o.cell 7;have g0:=BR.o.frozen 0;have g1:=BR.o.frozen 1;have g2:=BR.o.frozen 2;have g3:=BR.o.frozen 3;have g4:=BR.o.frozen 4;have g5:=BR.o.frozen 5;have g6:=BR.o.frozen 6;have g7:=BR.o.frozen 7;simp at c0 c1 c2 c3 c4 c5 c6 c7 d0 d1 d2 d3 d4 d5 d6 d7;generalize hga0:(Ae AA 0:Int)=a0' at*;generalize hga1:(Ae AA 1:Int)=a1' at*;generalize hga2:(Ae AA 2:Int)=a2' at*;generalize hga3:(Ae AA 3:Int)=a3' at*;generalize hga4:(Ae AA 4:Int)=a4' at*;generalize hga5:(Ae AA 5:Int)=a5' at*;generalize hga6:(Ae AA 6:Int)=a6' at*;generalize hga7:(Ae AA 7:Int)=a7' at*;have hset:=((((((((BR.o.gu 0 (.int .i64 a0')).gu 1 (.int .i64 a1')).gu 2 (.int .i64 a2')).gu 3 (.int .i64 a3')).gu 4 (.int .i64 a4')).gu 5 (.int .i64 a5')).gu 6 (.int .i64 a6')).gu 7 (.int .i64 a7'));have hks:=((((((((HK.o.setCell (p:=⟨w.heap.size+1,0,none⟩) (.inr (by show w.heap.size≤w.heap.size+1;omega)) (.int .i64 a0')).setCell (p:=⟨w.heap.size+1,1,none⟩) (.inr (by show w.heap.size≤w.heap.size+1;omega)) (.int .i64 a1')).setCell (p:=⟨w.heap.size+1,2,none⟩) (.inr (by show w.heap.size≤w.heap.size+1;omega)) (.int .i64 a2')).setCell (p:=⟨w.heap.size+1,3,none⟩) (.inr (by show w.heap.size≤w.heap.size+1;omega)) (.int .i64 a3')).setCell (p:=⟨w.heap.size+1,4,none⟩) (.inr (by show w.heap.size≤w.heap.size+1;omega)) (.int .i64 a4')).setCell (p:=⟨w.heap.size+1,5,none⟩) (.inr (by show w.heap.size≤w.heap.size+1;omega)) (.int .i64 a5')).setCell (p:=⟨w.heap.size+1,6,none⟩) (.inr (by show w.heap.size≤w.heap.size+1;omega)) (.int .i64 a6')).setCell (p:=⟨w.heap.size+1,7,none⟩) (.inr (by show w.heap.size≤w.heap.size+1;omega)) (.int .i64 a7'));have HSE:=ag hset;have HKS:=ag hks;clear hset hks;go_wp2;generalize((((((((wr.setCell ⟨w.heap.size+1,0,none⟩ (.int .i64 a0')).setCell ⟨w.heap.size+1,1,none⟩ (.int .i64 a1')).setCell ⟨w.heap.size+1,2,none⟩ (.int .i64 a2')).setCell ⟨w.heap.size+1,3,none⟩ (.int .i64 a3')).setCell ⟨w.heap.size+1,4,none⟩ (.int .i64 a4')).setCell ⟨w.heap.size+1,5,none⟩ (.int .i64 a5')).setCell ⟨w.heap.size+1,6,none⟩ (.int .i64 a6')).setCell ⟨w.heap.size+1,7,none⟩ (.int .i64 a7'))=WZ at*;have hz:Blk WZ (w.heap.size+1) 65 #[.int .i64 a0',.int .i64 a1',.int .i64 a2',.int .i64 a3',.int .i64 a4',.int .i64 a5',.int .i64 a6',.int .i64 a7']:=(by have:=HSE.o;simpa using this);have z0:=hz.cell 0;have z1:=hz.cell 1;have z2:=hz.cell 2;have z3:=hz.cell 3;have z4:=hz.cell 4;have z5:=hz.cell 5;have z6:=hz.cell 6;have z7:=hz.cell 7;simp at z0 z1 z2 z3 z4 z5 z6 z7;exact bodyPost_ret (v:= .agg #[.int .i64 a0',.int .i64 a1',.int .i64 a2',.int .i64 a3',.int .i64 a4',.int .i64 a5',.int .i64 a6',.int .i64 a7']) (by simp[results,Tryz.results70,go_sem,z0,z1,z2,z3,z4,z5,z6,z7]) rfl ⟨by rw[HAA.o,HCV.o];unfold cV;rw[hga0,hga1,hga2,hga3,hga4,hga5,hga6,hga7],HKS.o⟩
end Go.Proofs.YtjllbchfojonhaaGreatDoor
namespace Go.Proofs.YtjllbchfojonhaaGreatDoor
open Go.RowKit
def phT (f:ax) (k:Nat):Nat:=((f.blocks.2.take k).map fun b=>b.phis.2.length).sum
def inT (f:ax) (k:Nat):Nat:=((f.blocks.2.take k).map fun b=>b.insts.2.length).sum
theorem phT_step (f:ax) (k:Nat) (hk:k<f.nb):phT f (k+1)=phT f k+f.blocks.2[k]!.phis.2.length:=by
 unfold phT;rw[List.take_succ_eq_append_getElem (show k<f.blocks.2.length from hk),getElem!_pos f.blocks.2 k hk,List.map_append,List.sum_append];simp;try rfl
theorem inT_step (f:ax) (k:Nat) (hk:k<f.nb):inT f (k+1)=inT f k+f.blocks.2[k]!.insts.2.length:=by
 unfold inT;rw[List.take_succ_eq_append_getElem (show k<f.blocks.2.length from hk),getElem!_pos f.blocks.2 k hk,List.map_append,List.sum_append];simp;try rfl
def sumO (l:List Int) (k:Nat):Nat:=((List.range k).map (Ae l)).sum
theorem sumO_step (l:List Int) (k:Nat):sumO l (k+1)=sumO l k+Ae l k:=by unfold sumO;rw[List.range_succ,List.map_append,List.sum_append];simp
def totO (l:List Int):Nat:=(l.filter qx).length
theorem totO_snoc (l:List Int) (op:Int):totO (l++[op])=totO l+if qx op=true then 1 else 0:=by
 unfold totO;rw[List.filter_append,List.length_append]
 congr 1
 cases h:qx op<;>simp[h]
theorem sumO_snoc (l:List Int) (op:Int):sumO (l++[op]) 8=sumO l 8+if qx op=true then 1 else 0:=by
 simp only[sumO_step,show ∀l,sumO l 0=0 from fun _=>rfl,cnt_snoc];cases h:qx op with
 |false=>simp
 |true=>
  have h2:18≤op∧op≤24:=(by simpa[qx]using h);have h3:op=18∨op=19∨op=20∨op=21∨op=22∨op=23∨op=24:=(by omega);rcases h3 with rfl|rfl|rfl|rfl|rfl|rfl|rfl<;>simp<;>omega
theorem sumO_rev (l:List Int):sumO l.reverse 8=totO l.reverse:=by
 induction l with
 |nil=>rfl
 |cons op l ih=>rw[List.reverse_cons,sumO_snoc,totO_snoc,ih]
theorem sumO_eq (l:List Int):sumO l 8=totO l:=by
 have:=sumO_rev l.reverse
 rwa [List.reverse_reverse]at this
theorem opsT_all (f:ax):f.blocks.2.flatMap opsB=opsT f f.nb:=by unfold opsT;rw[show f.blocks.2.take f.nb=f.blocks.2 from List.take_length]
theorem opsT_len (f:ax) (hfew:yu f) (k:Nat) (hk:k≤f.nb):(opsT f k).length≤1000*k:=by
 induction k with
 |zero=>exact Nat.le_refl _
 |succ k ih=>
  have h1:=ih (by omega);have h2:=(hfew.block _ (az (l:=f.blocks.2) (k:=k) (show k<f.blocks.2.length by have:f.blocks.2.length=f.nb:=rfl;omega))).2;rw[opsT_step f k (by omega),List.length_append];unfold opsB;rw[List.length_map];omega
theorem idx8 (l:List Int) (k:Nat) (hk:k<8) (w:World):(Instr.index 65 (.agg (cntV l)) (.int .i64 k)).run Tryz.prog w= .ok (cV l k) w:=
 match k,hk with
 |0,_=>by kernel_rfl
 |1,_=>by kernel_rfl
 |2,_=>by kernel_rfl
 |3,_=>by kernel_rfl
 |4,_=>by kernel_rfl
 |5,_=>by kernel_rfl
 |6,_=>by kernel_rfl
 |7,_=>by kernel_rfl
 |n+8,h=>absurd h (by omega)
theorem count_any (f:ax) (w:World) (hf:cz w f) (hfew:yu f):Calls Tryz.prog 42 #[f.val] w fun e w'=>e= .returned (.tuple #[.int .i64 (phT f f.nb:Nat),.int .i64 (inT f f.nb:Nat),.int .i64 (totO (opsT f f.nb):Nat)])∧ai w w' []:=by
 obtain⟨a0,c0,a1,c1,a2,c2,e0,e1,e2,hval,h1,HF,HC0,HC1,HC2,HNV,HNP,HNB⟩:=qj hf;have HFB:=ag hfew.block;have hnbF:=hfew.nb;have CG:=ag (fun W h=>guards_any f W h hfew);have HLEN:=ag (opsT_len f hfew f.nb (Nat.le_refl _));rw[opsT_all]at CG;rw[hval];rw[hval]at CG;clear e0 e1 e2 hval h1 hf hfew;have hk0:ai w (w.alloc (.cells #[.slice a0 f.nv c0,.slice a1 f.np c1,.slice a2 f.nb c2] 26)) []:=(ai.refl _ []).alloc _;have bb0:=Blk.new w 26 #[.slice a0 f.nv c0,.slice a1 f.np c1,.slice a2 f.nb c2];have Bl:=ag bb0;have HK:=ag hk0;have l0:=Bl.o.cell 0;have l1:=Bl.o.cell 1;have l2:=Bl.o.cell 2;simp at l0 l1 l2;clear hk0 bb0;go_enter Tryz.func42,Tryz.ntmps42;go_wp2;clear l0 l1 l2;generalize(w.alloc (.cells #[.slice a0 f.nv c0,.slice a1 f.np c1,.slice a2 f.nb c2] 26))=W0 at*;have Bl_W0:=Bl;have TW0:=HK;clear HK;have HK:=ag (ai.refl W0 []);have l0:=Bl.o.cell 0;have l1:=Bl.o.cell 1;have l2:=Bl.o.cell 2;simp at l0 l1 l2;go_loopw [2,3,12] (fun p s i wr=>∃k:Nat,k≤f.nb∧i= .int .i64 k∧p= .int .i64 (phT f k:Nat)∧s= .int .i64 (inT f k:Nat)∧ai W0 wr []∧phT f k≤1000*k∧inT f k≤1000*k) (fun _ _ i _=>f.nb -(intOf i).toNat)
 case atStart=>exact⟨0,Nat.zero_le _,rfl,rfl,rfl,HK.o,Nat.zero_le _,Nat.zero_le _⟩
 case round=>
  obtain⟨k,hk,rfl,rfl,rfl,hr,hp1,hi1⟩:=hrel;clear l0 l1 l2;clear Bl HK;have HK:=ag hr;have Bl:=ag (Bl_W0.o.keep hr (by simp));clear hr;have l0:=Bl.o.cell 0;have l1:=Bl.o.cell 1;have l2:=Bl.o.cell 2;simp at l0 l1 l2;by_cases hlt:k<f.nb
  ·have hltz:(k:Int)<(f.nb:Int):=(by omega);obtain⟨bb,off,rfl,hbl,hcell⟩:=HC2.o k (by rw[HNB.o];exact hlt);have n0:=(TW0.o.ak HK.o).cellOf (hcell 0 _ rfl);have n1:=(TW0.o.ak HK.o).cellOf (hcell 1 _ rfl);have n2:=(TW0.o.ak HK.o).cellOf (hcell 2 _ rfl);have n3:=(TW0.o.ak HK.o).cellOf (hcell 3 _ rfl);have n4:=(TW0.o.ak HK.o).cellOf (hcell 4 _ rfl);have n5:=(TW0.o.ak HK.o).cellOf (hcell 5 _ rfl);have n6:=(TW0.o.ak HK.o).cellOf (hcell 6 _ rfl);simp only[Nat.add_zero]at n0;have hyb:=HF.o.block _ (az (l:=f.blocks.2) (k:=k) (by rw[HNB.o];exact hlt));have hfb:=HFB.o _ (az (l:=f.blocks.2) (k:=k) (by rw[HNB.o];exact hlt));have HP1:=ag (phT_step f k hlt);have HI1:=ag (inT_step f k hlt);clear hcell;generalize f.blocks.2[k]! =y at*;obtain⟨pa,pc,pe,-,-,-⟩:=hyb.phis.open_;obtain⟨qa,qc,qe,-,-,-⟩:=hyb.insts.open_;rw[pe]at n1;rw[qe]at n2;clear hyb pe qe;generalize y.phis.2.length=pn at*;generalize y.insts.2.length=qn at*;generalize y.name=yn at*;generalize y.kind=yk at*;generalize y.var=yv at*;generalize y.to0=y0 at*;generalize y.to1=y1 at*;generalize hPk:phT f k=PK at*;generalize hIk:inT f k=IK at*;have h1:=hfb.1;have h2:=hfb.2;clear hfb;clear l0 l1 l2;have bmx:=Blk.new wr 38 #[.string yn,.slice pa pn pc,.slice qa qn qc,.int .i64 yk,.int .i64 yv,.int .i64 y0,.int .i64 y1];have k3:ai wr (wr.alloc (.cells #[.string yn,.slice pa pn pc,.slice qa qn qc,.int .i64 yk,.int .i64 yv,.int .i64 y0,.int .i64 y1] 38)) []:=(ai.refl wr []).alloc _;have Blx:=ag (Bl.o.keep k3 (by simp));have HKx:=ag (HK.o.ak k3);clear k3 Bl HK;have Bl:=Blx;have HK:=HKx;have Bm:=ag bmx;clear bmx Blx HKx;have l0:=Bl.o.cell 0;have l1:=Bl.o.cell 1;have l2:=Bl.o.cell 2;have m0:=Bm.o.cell 0;have m1:=Bm.o.cell 1;have m2:=Bm.o.cell 2;have m3:=Bm.o.cell 3;have m4:=Bm.o.cell 4;have m5:=Bm.o.cell 5;have m6:=Bm.o.cell 6;simp at l0 l1 l2 m0 m1 m2 m3 m4 m5 m6;go_wp2;go_roundw
   case rel=>
    refine⟨k+1,by omega,by go_num, ?_, ?_,HK.o,by rw[HP1.o];omega,by rw[HI1.o];omega⟩
    ·rw[HP1.o];go_num
    ·rw[HI1.o];go_num
   case measure=>simp[intOf];omega
  ·have hltz:¬(k:Int)<(f.nb:Int):=(by omega);obtain rfl:f.nb=k:=by omega
   clear hlt hk;go_wp2_with (first |(go_at_call 70;refine(CG.o _ (HF.o.keep (TW0.o.ak HK.o))).mono ?_;rintro e w3 ⟨rfl,k3⟩;clear l0 l1 l2;have Blx:=ag (Bl.o.keep k3 (by simp));have HKx:=ag (HK.o.ak k3);clear Bl HK;have Bl:=Blx;have HK:=HKx;clear Blx HKx;have l0:=Bl.o.cell 0;have l1:=Bl.o.cell 1;have l2:=Bl.o.cell 2;simp at l0 l1 l2;clear k3))
   have hHL:=HLEN.o;generalize hAA:opsT f f.nb=AA at*;have HAA:=ag hAA;clear hAA;go_loop [4,29] (fun s i=>∃q:Nat,q≤8∧i= .int .i64 q∧s= .int .i64 (sumO AA q:Nat)∧sumO AA q≤40000*q) (fun _ i=>8 -(intOf i).toNat)
   case atStart=>exact⟨0,Nat.zero_le _,rfl,rfl,Nat.le_refl _⟩
   case round=>
    obtain⟨q,hq,rfl,rfl,hs⟩:=hrel;by_cases hltq:q<8
    ·have hltqz:(q:Int)<8:=(by omega);have hix:=fun w=>idx8 AA q hltq w;have HSS:=ag (sumO_step AA q);have hcl:=cnt_le AA q;unfold cV at hix;generalize sumO AA q=SS at*;generalize Ae AA q=cc at*;generalize cntV AA=VV at*;go_wp2;go_round
     case rel=>exact⟨q+1,by omega,by go_num,by rw[HSS.o];go_num,by rw[HSS.o];omega⟩
     case measure=>simp[intOf];omega
    ·have hltqz:¬(q:Int)<8:=(by omega);obtain rfl:q=8:=by omega
     have HSQ:=ag (sumO_eq AA);go_wp2;exact bodyPost_ret (v:= .tuple #[.int .i64 (phT f f.nb:Nat),.int .i64 (inT f f.nb:Nat),.int .i64 (sumO AA 8:Nat)]) (by simp[results,Tryz.results42,go_sem]) rfl ⟨by rw[HSQ.o,HAA.o],(TW0.o.ak HK.o)⟩
end Go.Proofs.YtjllbchfojonhaaGreatDoor
