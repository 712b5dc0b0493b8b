/- The document's Shaped; contract. -/
import Derived.Test.YtjllbchfojonhaaGreatDoorRefShA
import Derived.Deep.CutBlock
import Derived.Deep.Cut
import Derived.Deep.CutRange
set_option linter.unusedVariables false
set_option linter.unusedSimpArgs false
set_option maxRecDepth 100000
set_option maxHeartbeats 200000000
namespace Go.Proofs.YtjllbchfojonhaaGreatDoor
open Go.RowKit
theorem refShaped_any0 (f:ax) (w:World) (ht:Tabs w) (hf:cz w f) (hfew:yu f):Calls Tryz.prog 52 #[f.val] w fun e w'=>e= .returned (.bool (mi f))∧ai w w' []:=by
 obtain⟨a0,c0,a1,c1,a2,c2,e0,e1,e2,hval,h1,HF,HC0,HC1,HC2,HNV,HNP,HNB⟩:=qj hf;have HT:=ag ht;have HFN:=ag hf.names;have HFB:=ag hfew.block;rw[hval];have hnvF:=hfew.nv;have hnbF:=hfew.nb;have hnpF:=hfew.np;clear e0 e1 e2 hval h1 hf ht hfew;generalize hRB:mi f=RB at*;have HRB:=ag hRB;clear hRB;obtain⟨HK,Bl⟩:=Cc w 26 #[.slice a0 f.nv c0,.slice a1 f.np c1,.slice a2 f.nb c2];obtain⟨l0,l1,l2⟩:=Bl.o.c3;simp at l0 l1 l2;have hv5:¬(512:Int)<(f.nv:Int):=(by omega);have hb6:¬(64:Int)<(f.nb:Int):=(by omega);by_cases h8:(8:Int)<(f.np:Int)
 ·go_enter Tryz.func52,Tryz.ntmps52;go_wp2;go_ret;exact⟨ay (by rw[←HRB.o];exact(ref_no0 (by omega)).symm),HK.o⟩
 by_cases hpv:(f.nv:Int)<(f.np:Int)
 ·go_enter Tryz.func52,Tryz.ntmps52;go_wp2;go_ret;exact⟨ay (by rw[←HRB.o];exact(ref_no0 (by omega)).symm),HK.o⟩
 by_cases hb1:(f.nb:Int)<1
 ·go_enter Tryz.func52,Tryz.ntmps52;go_wp2;go_ret;exact⟨ay (by rw[←HRB.o];exact(ref_no0 (by omega)).symm),HK.o⟩
 have HC:=ag (show f.nv≤512∧f.np≤8∧f.np≤f.nv∧1≤f.nb∧f.nb≤64 by omega);go_enter Tryz.func52,Tryz.ntmps52;go_wp2;clear l0 l1 l2;generalize(w.alloc (.cells #[.slice a0 f.nv c0,.slice a1 f.np c1,.slice a2 f.nb c2] 26))=W0 at*;have Bl_W0:=Bl;have TW0:=HK;clear HK;have HK:=ag (ai.refl W0 []);obtain⟨l0,l1,l2⟩:=Bl.o.c3;simp at l0 l1 l2;go_loopw [57] (fun i wr=>∃k:Nat,k≤f.np∧i= .int .i64 k∧ai W0 wr []∧Hid (∀j,j<k→(f.params.2[j]! ==(j:Int))=true)) (fun i _=>f.np -(intOf i).toNat)
 case atStart=>exact⟨0,Nat.zero_le _,rfl,HK.o,fun j hj=>absurd hj (Nat.not_lt_zero _)⟩
 case round=>
  obtain⟨k,hk,rfl,hr,A⟩:=hrel;clear l0 l1 l2;clear Bl HK;have HK:=ag hr;have Bl:=ag (Bl_W0.o.keep hr (by simp));clear hr;obtain⟨l0,l1,l2⟩:=Bl.o.c3;simp at l0 l1 l2;by_cases hlt:k<f.np
  ·have hltz:(k:Int)<(f.np:Int):=(by omega);obtain⟨bb,off,rfl,hbl,hcell⟩:=HC1.o k (by rw[HNP.o];exact hlt);have n0:=(TW0.o.ak HK.o).cellOf (hcell 0 _ rfl);simp only[Nat.add_zero,Nat.mul_one]at n0;clear hcell HC1;generalize hz:f.params.2[k]! =z at*;have HZ:=ag hz;clear hz;have hne:(z !=(k:Int))= !(z==(k:Int)):=rfl;cases hq:(z==(k:Int))with
   |false=>
    rw[hq]at hne;go_wp2;go_ret;exact⟨ay (by rw[←HRB.o];exact(ref_no1 hlt (by rw[HZ.o];exact hq)).symm),(TW0.o.ak HK.o)⟩
   |true=>
    rw[hq]at hne;go_wp2;go_roundw
    case rel=>
     refine⟨k+1,by omega,by go_num,HK.o,(show Hid _ from fun q hq2=> ?_)⟩;by_cases e:q=k
     ·subst e;rw[HZ.o];exact hq
     ·exact A.o q (by omega)
    case measure=>simp[intOf];omega
  ·have hltz:¬(k:Int)<(f.np:Int):=(by omega);obtain rfl:f.np=k:=by omega
   have P1:=A;go_wp2;clear A hltz hlt hk;go_loopw [69] (fun i wr=>∃k:Nat,k≤f.nv∧i= .int .i64 k∧ai W0 wr []∧Hid (∀j,j<k→xw f j=true)) (fun i _=>f.nv -(intOf i).toNat)
   case atStart=>exact⟨0,Nat.zero_le _,rfl,HK.o,fun j hj=>absurd hj (Nat.not_lt_zero _)⟩
   case round=>
    obtain⟨k,hk,rfl,hr,A⟩:=hrel;obtain⟨wo,hwo⟩:∃wo:World,wo=wr:=⟨_,rfl⟩;subst hwo;clear l0 l1 l2;clear Bl HK;have HK:=ag hr;have Bl:=ag (Bl_W0.o.keep hr (by simp));clear hr;obtain⟨l0,l1,l2⟩:=Bl.o.c3;simp at l0 l1 l2;by_cases hlt:k<f.nv
    ·as_aux_lemma=>
      have hltz:(k:Int)<(f.nv:Int):=(by omega);obtain⟨bb,off,rfl,hbl,hcell⟩:=HC0.o k (by rw[HNV.o];exact hlt);have n0:=(TW0.o.ak HK.o).cellOf (hcell 0 _ rfl);have n1:=(TW0.o.ak HK.o).cellOf (hcell 1 _ rfl);simp only[Nat.add_zero]at n0;clear hcell;have hsz:=HFN.o _ (az (l:=f.vars.2) (k:=k) (by rw[HNV.o];exact hlt));generalize hy:f.vars.2[k]! =y at*;have HY:=ag hy;clear hy;have HTy:=ag (show Cj y=(decide (0≤y.type)&&decide (y.type≤2))from rfl);generalize hyn:y.name=yn at*;have HYN:=ag hyn;generalize hyt:y.type=yt at*;clear hyn hyt;have CN:=ag (fun w h=>refName_any yn w h (by unfold maxLen at hsz;omega));have HNm:=ag (show wy yn=wy yn from rfl);clear l0 l1 l2;have bmx:=Blk.new wo 83 #[.string yn,.int .i64 yt];have k3:ai wo (wo.alloc (.cells #[.string yn,.int .i64 yt] 83)) []:=(ai.refl wo []).alloc _;replace Bl:=Bl.kb k3;replace HK:=HK.kt k3;clear k3;have Bm:=ag bmx;clear bmx;obtain⟨l0,l1,l2⟩:=Bl.o.c3;obtain⟨m0,m1⟩:=Bm.o.c2;simp at l0 l1 l2 m0 m1;generalize hNB:wy yn=NB at*;have HNB1:=ag hNB;clear hNB HNm;cases NB with
      |false=>
       go_wp2_with (first |(go_at_call 83;refine(CN.o _ (HT.o.keep (TW0.o.ak HK.o))).mono ?_;rintro e w5 ⟨rfl,k3⟩;clear l0 l1 l2 m0 m1;replace Bl:=Bl.kb k3;replace Bm:=Bm.kb k3;replace HK:=HK.kt k3;obtain⟨l0,l1,l2⟩:=Bl.o.c3;obtain⟨m0,m1⟩:=Bm.o.c2;simp at l0 l1 l2 m0 m1;clear k3))
       go_ret;exact⟨ay (by rw[←HRB.o];exact(ref_no2 hlt (var_no1 HY.o (by rw[HYN.o];exact HNB1.o))).symm),(TW0.o.ak HK.o)⟩
      |true=>
       as_aux_lemma=>
        by_cases ht0:yt<0
        ·go_wp2_with (first |(go_at_call 83;refine(CN.o _ (HT.o.keep (TW0.o.ak HK.o))).mono ?_;rintro e w5 ⟨rfl,k3⟩;clear l0 l1 l2 m0 m1;replace Bl:=Bl.kb k3;replace Bm:=Bm.kb k3;replace HK:=HK.kt k3;obtain⟨l0,l1,l2⟩:=Bl.o.c3;obtain⟨m0,m1⟩:=Bm.o.c2;simp at l0 l1 l2 m0 m1;clear k3))
         go_ret;exact⟨ay (by rw[←HRB.o];exact(ref_no2 hlt (var_no2 HY.o (by rw[HTy.o,decide_eq_false (by omega)];rfl))).symm),(TW0.o.ak HK.o)⟩
        by_cases ht2:2<yt
        ·go_wp2_with (first |(go_at_call 83;refine(CN.o _ (HT.o.keep (TW0.o.ak HK.o))).mono ?_;rintro e w5 ⟨rfl,k3⟩;clear l0 l1 l2 m0 m1;replace Bl:=Bl.kb k3;replace Bm:=Bm.kb k3;replace HK:=HK.kt k3;obtain⟨l0,l1,l2⟩:=Bl.o.c3;obtain⟨m0,m1⟩:=Bm.o.c2;simp at l0 l1 l2 m0 m1;clear k3))
         go_ret;exact⟨ay (by rw[←HRB.o];exact(ref_no2 hlt (var_no2 HY.o (by rw[HTy.o,decide_eq_false (show ¬yt≤2 by omega)];simp))).symm),(TW0.o.ak HK.o)⟩
        have HTT:=ag (show Cj y=true by rw[HTy.o,decide_eq_true (by omega),decide_eq_true (by omega)];rfl);go_wp2_with (first |(go_at_call 83;refine(CN.o _ (HT.o.keep (TW0.o.ak HK.o))).mono ?_;rintro e w5 ⟨rfl,k3⟩;clear l0 l1 l2 m0 m1;replace Bl:=Bl.kb k3;replace Bm:=Bm.kb k3;replace HK:=HK.kt k3;obtain⟨l0,l1,l2⟩:=Bl.o.c3;obtain⟨m0,m1⟩:=Bm.o.c2;simp at l0 l1 l2 m0 m1;clear k3))
        clear n0 n1;clear l0 l1 l2 m0 m1;have Bl_w5:=Bl;have Bm_w5:=Bm;have Tw5:=HK;clear HK;have HK:=ag (ai.refl w5 []);obtain⟨l0,l1,l2⟩:=Bl.o.c3;obtain⟨m0,m1⟩:=Bm.o.c2;simp at l0 l1 l2 m0 m1;go_loopw [89] (fun i wr=>∃j:Nat,j≤k∧i= .int .i64 j∧ai w5 wr []∧Hid (∀q,q<j→¬f.vars.2[q]!.name=yn)) (fun i _=>k -(intOf i).toNat)
        case atStart=>exact⟨0,Nat.zero_le _,rfl,ai.refl _ _,fun j hj=>absurd hj (Nat.not_lt_zero _)⟩
        case round=>
         obtain⟨j,hj,rfl,hr,A3⟩:=hrel;clear l0 l1 l2 m0 m1;clear Bl Bm HK;have HK:=ag hr;have Bl:=ag (Bl_w5.o.keep hr (by simp));have Bm:=ag (Bm_w5.o.keep hr (by simp));clear hr;obtain⟨l0,l1,l2⟩:=Bl.o.c3;obtain⟨m0,m1⟩:=Bm.o.c2;simp at l0 l1 l2 m0 m1;by_cases hltj:j<k
         ·have hltjz:(j:Int)<(k:Int):=(by omega);have hjv:(j:Int)<(f.nv:Int):=(by omega);obtain⟨b2,off2,e2,-,hcj⟩:=HC0.o j (by rw[HNV.o];omega);simp only[Option.some.injEq,Addr.mk.injEq,and_true]at e2;obtain⟨rfl,rfl⟩:=e2;have N0:=ag (hcj 0 _ rfl);rw[Nat.add_zero]at N0;clear hcj;have HNj:=ag (show f.vars.2[j]!.name=f.vars.2[j]!.name from rfl);generalize hjn:f.vars.2[j]!.name=jn at*;have HJN:=ag hjn;clear hjn HNj;have n0:=(TW0.o.ak (Tw5.o.ak HK.o)).cellOf N0.o;by_cases hq:jn=yn
          ·have hqq:(jn.toList==yn.toList)=true:=(by rw[hq];exact beq_self_eq_true _);go_wp2_with fail
           refine wp_region_held_drew (S:=(fun w'=>w'.cell? ⟨w.heap.size,0,none⟩=some (.slice (some ⟨bb,off,none⟩) f.nv c0)∧w'.cell? ⟨w.heap.size,1,none⟩=some (.slice a1 f.np c1)∧w'.cell? ⟨w.heap.size,2,none⟩=some (.slice a2 f.nb c2)∧w'.cell? ⟨wo.heap.size,0,none⟩=some (.string yn)∧w'.cell? ⟨wo.heap.size,1,none⟩=some (.int .i64 yt)∧w'.cell? ⟨bb,off+j*2,none⟩=some (.string jn))) (by kernel_rfl) ?vahSs (fun ah=> ?_)
           case vahSs=>exact⟨l0,l1,l2,m0,m1,n0⟩
           clear l0 l1 l2 m0 m1 n0;replace Bl:=ag (Bl.o.keep ((ai.refl _ []).drew) (by simp));replace Bm:=ag (Bm.o.keep ((ai.refl _ []).drew) (by simp));replace HK:=ag (HK.o.drew);generalize World.drew _=X0 at*;obtain⟨l0,l1,l2⟩:=Bl.o.c3;obtain⟨m0,m1⟩:=Bm.o.c2;simp at l0 l1 l2 m0 m1;have n0:=(TW0.o.ak (Tw5.o.ak HK.o)).cellOf N0.o;refine tp 0 92 rfl ah ?_;refine tp 1 93 rfl ah ?_;refine tp 2 94 rfl ah ?_;refine tp 3 95 rfl ah ?_;refine tp 4 96 rfl ah ?_;refine tp 5 97 rfl ah ?_;refine tp 6 98 rfl ah ?_;refine tp 7 99 rfl ah ?_;refine tp 8 100 rfl ah ?_;refine wpAnyH_done (by kernel_rfl) ?_ _;clear ah;go_wp2;go_ret;exact⟨ay (by rw[←HRB.o];exact(ref_no2 hlt (var_no3 HY.o hltj (by rw[HJN.o,HYN.o];exact hq))).symm),(TW0.o.ak (Tw5.o.ak HK.o))⟩
          ·have hqq:(jn.toList==yn.toList)=false:=str_ne hq;go_wp2_with fail
           refine wp_region_held_drew (S:=(fun w'=>w'.cell? ⟨w.heap.size,0,none⟩=some (.slice (some ⟨bb,off,none⟩) f.nv c0)∧w'.cell? ⟨w.heap.size,1,none⟩=some (.slice a1 f.np c1)∧w'.cell? ⟨w.heap.size,2,none⟩=some (.slice a2 f.nb c2)∧w'.cell? ⟨wo.heap.size,0,none⟩=some (.string yn)∧w'.cell? ⟨wo.heap.size,1,none⟩=some (.int .i64 yt)∧w'.cell? ⟨bb,off+j*2,none⟩=some (.string jn))) (by kernel_rfl) ?vbhSs (fun ah=> ?_)
           case vbhSs=>exact⟨l0,l1,l2,m0,m1,n0⟩
           clear l0 l1 l2 m0 m1 n0;replace Bl:=ag (Bl.o.keep ((ai.refl _ []).drew) (by simp));replace Bm:=ag (Bm.o.keep ((ai.refl _ []).drew) (by simp));replace HK:=ag (HK.o.drew);generalize World.drew _=X0 at*;obtain⟨l0,l1,l2⟩:=Bl.o.c3;obtain⟨m0,m1⟩:=Bm.o.c2;simp at l0 l1 l2 m0 m1;have n0:=(TW0.o.ak (Tw5.o.ak HK.o)).cellOf N0.o;refine tp 0 92 rfl ah ?_;refine tp 1 93 rfl ah ?_;refine tp 2 94 rfl ah ?_;refine tp 3 95 rfl ah ?_;refine tp 4 96 rfl ah ?_;refine tp 5 97 rfl ah ?_;refine tp 6 98 rfl ah ?_;refine tp 7 99 rfl ah ?_;refine tp 8 100 rfl ah ?_;refine wpAnyH_done (by kernel_rfl) ?_ _;clear ah;go_wp2;go_roundw
           case rel=>
            refine⟨j+1,by omega,by go_num,HK.o,(show Hid _ from fun q hq2=> ?_)⟩;by_cases e:q=j
            ·subst e;rw[HJN.o];exact hq
            ·exact A3.o q (by omega)
           case measure=>simp[intOf];omega
         ·have hltjz:¬(j:Int)<(k:Int):=(by omega);obtain rfl:k=j:=by omega
          go_wp2;go_roundw
          case rel=>
           refine⟨k+1,by omega,by go_num,(Tw5.o.ak HK.o),(show Hid _ from fun q hq2=> ?_)⟩;by_cases e:q=k
           ·subst e;exact var_yes HY.o (by rw[HYN.o];exact HNB1.o) HTT.o (fun j hj=>by rw[HYN.o];exact A3.o j hj)
           ·exact A.o q (by omega)
          case measure=>simp[intOf];omega
    ·as_aux_lemma=>
      have hltz:¬(k:Int)<(f.nv:Int):=(by omega);obtain rfl:f.nv=k:=by omega
      have P2:=A;go_wp2;clear A hltz hlt hk;go_loopw [10,109] (fun s i wr=>∃k:Nat,k≤f.nb∧i= .int .i64 k∧s= .int .i64 (Ct (f.blocks.2.take k))∧ai W0 wr []∧Ct (f.blocks.2.take k)≤1024∧Hid (∀j,j<k→oh f j=true)) (fun _ i _=>f.nb -(intOf i).toNat)
      case atStart=>exact⟨0,Nat.zero_le _,rfl,rfl,HK.o,by simp[Ct],fun j hj=>absurd hj (Nat.not_lt_zero _)⟩
      case round=>
       obtain⟨k,hk,rfl,rfl,hr,hS,A⟩:=hrel;obtain⟨wb,hwb⟩:∃wb:World,wb=wr:=⟨_,rfl⟩;subst hwb;clear l0 l1 l2;clear Bl HK;have HK:=ag hr;have Bl:=ag (Bl_W0.o.keep hr (by simp));clear hr;obtain⟨l0,l1,l2⟩:=Bl.o.c3;simp at l0 l1 l2;by_cases hlt:k<f.nb
       ·as_aux_lemma=>
         have hltz:(k:Int)<(f.nb:Int):=(by omega);obtain⟨bb,off,rfl,hbl,hcell⟩:=HC2.o k (by rw[HNB.o];exact hlt);have n0:=(TW0.o.ak HK.o).cellOf (hcell 0 _ rfl);have n1:=(TW0.o.ak HK.o).cellOf (hcell 1 _ rfl);have n2:=(TW0.o.ak HK.o).cellOf (hcell 2 _ rfl);have n3:=(TW0.o.ak HK.o).cellOf (hcell 3 _ rfl);have n4:=(TW0.o.ak HK.o).cellOf (hcell 4 _ rfl);have n5:=(TW0.o.ak HK.o).cellOf (hcell 5 _ rfl);have n6:=(TW0.o.ak HK.o).cellOf (hcell 6 _ rfl);simp only[Nat.add_zero]at n0;clear hcell;have hyb:=(HF.o.keep (TW0.o.ak HK.o)).block _ (az (l:=f.blocks.2) (k:=k) (by rw[HNB.o];exact hlt));have hfb:=HFB.o _ (az (l:=f.blocks.2) (k:=k) (by rw[HNB.o];exact hlt));have HSn:=ag (bsum_snoc f.blocks.2 k (by rw[HNB.o];exact hlt));generalize hy:f.blocks.2[k]! =y at*;have HY:=ag hy;clear hy;obtain⟨pa,pc,pe,-,-,hpc⟩:=hyb.phis.open_;obtain⟨qa,qc,qe,-,-,hqc⟩:=hyb.insts.open_;have HYB:=ag hyb;rw[pe]at n1;rw[qe]at n2;have HPC:=ag hpc;have HQC:=ag hqc;have hsz:=hyb.size;clear hyb pe qe hpc hqc;generalize hPN:y.phis.2.length=pn at*;generalize hQN:y.insts.2.length=qn at*;have HPN:=ag hPN;have HQN:=ag hQN;clear hPN hQN;have hfb1:=hfb.1;have hfb2:=hfb.2;clear hfb;generalize hyn:y.name=yn at*;have Hyn:=ag hyn;clear hyn;generalize hyk:y.kind=yk at*;have Hyk:=ag hyk;clear hyk;generalize hyv:y.var=yv at*;have Hyv:=ag hyv;clear hyv;generalize hy0:y.to0=y0 at*;have Hy0:=ag hy0;clear hy0;generalize hy1:y.to1=y1 at*;have Hy1:=ag hy1;clear hy1;have CN:=ag (fun w h=>refName_any yn w h (by unfold maxLen at hsz;omega));generalize hNB:wy yn=NB at*;have HNB1:=ag hNB;clear hNB;generalize hBS:Ct (f.blocks.2.take k)=BS at*;have HBS:=ag hBS;clear hBS;clear l0 l1 l2;have bmx:=Blk.new wb 38 #[.string yn,.slice pa pn pc,.slice qa qn qc,.int .i64 yk,.int .i64 yv,.int .i64 y0,.int .i64 y1];have k3:ai wb (wb.alloc (.cells #[.string yn,.slice pa pn pc,.slice qa qn qc,.int .i64 yk,.int .i64 yv,.int .i64 y0,.int .i64 y1] 38)) []:=(ai.refl wb []).alloc _;replace Bl:=Bl.kb k3;replace HK:=HK.kt k3;clear k3;have Bm:=ag bmx;clear bmx;obtain⟨l0,l1,l2⟩:=Bl.o.c3;obtain⟨m0,m1,m2,m3,m4,m5,m6⟩:=Bm.o.c7;simp at l0 l1 l2 m0 m1 m2 m3 m4 m5 m6;cases NB with
         |false=>
          go_wp2_with (first |(go_at_call 83;refine(CN.o _ (HT.o.keep (TW0.o.ak HK.o))).mono ?_;rintro e w5 ⟨rfl,k3⟩;clear l0 l1 l2 m0 m1 m2 m3 m4 m5 m6;replace Bl:=Bl.kb k3;replace Bm:=Bm.kb k3;replace HK:=HK.kt k3;obtain⟨l0,l1,l2⟩:=Bl.o.c3;obtain⟨m0,m1,m2,m3,m4,m5,m6⟩:=Bm.o.c7;simp at l0 l1 l2 m0 m1 m2 m3 m4 m5 m6;clear k3))
          go_ret;exact⟨ay (by rw[←HRB.o];exact(xu hlt (blk_no1 HY.o (by rw[Hyn.o];exact HNB1.o))).symm),(TW0.o.ak HK.o)⟩
         |true=>
          as_aux_lemma=>
           have KB0:Hid (ai wb (wb.alloc (.cells #[.string yn,.slice pa pn pc,.slice qa qn qc,.int .i64 yk,.int .i64 yv,.int .i64 y0,.int .i64 y1] 38)) []):=(ai.refl wb []).alloc _;go_wp2_with (first |(go_at_call 83;refine(CN.o _ (HT.o.keep (TW0.o.ak HK.o))).mono ?_;rintro e w5 ⟨rfl,k3⟩;clear l0 l1 l2 m0 m1 m2 m3 m4 m5 m6;replace Bl:=Bl.kb k3;replace Bm:=Bm.kb k3;replace HK:=HK.kt k3;obtain⟨l0,l1,l2⟩:=Bl.o.c3;obtain⟨m0,m1,m2,m3,m4,m5,m6⟩:=Bm.o.c7;simp at l0 l1 l2 m0 m1 m2 m3 m4 m5 m6;have KB:=ag (KB0.o.ak k3);clear k3))
           clear n0 n1 n2 n3 n4 n5 n6;clear l0 l1 l2 m0 m1 m2 m3 m4 m5 m6;have Bl_w5:=Bl;have Bm_w5:=Bm;have Tw5:=HK;clear HK;have HK:=ag (ai.refl w5 []);obtain⟨l0,l1,l2⟩:=Bl.o.c3;obtain⟨m0,m1,m2,m3,m4,m5,m6⟩:=Bm.o.c7;simp at l0 l1 l2 m0 m1 m2 m3 m4 m5 m6;go_loopw [119] (fun i wr=>∃j:Nat,j≤k∧i= .int .i64 j∧ai w5 wr []∧Hid (∀q,q<j→¬f.blocks.2[q]!.name=yn)) (fun i _=>k -(intOf i).toNat)
           case atStart=>exact⟨0,Nat.zero_le _,rfl,ai.refl _ _,fun j hj=>absurd hj (Nat.not_lt_zero _)⟩
           case round=>
            obtain⟨j,hj,rfl,hr,A3⟩:=hrel;obtain⟨wc,hwc⟩:∃wc:World,wc=wr:=⟨_,rfl⟩;subst hwc;clear l0 l1 l2 m0 m1 m2 m3 m4 m5 m6;clear Bl Bm HK;have HK:=ag hr;have Bl:=ag (Bl_w5.o.keep hr (by simp));have Bm:=ag (Bm_w5.o.keep hr (by simp));clear hr;obtain⟨l0,l1,l2⟩:=Bl.o.c3;obtain⟨m0,m1,m2,m3,m4,m5,m6⟩:=Bm.o.c7;simp at l0 l1 l2 m0 m1 m2 m3 m4 m5 m6;by_cases hltj:j<k
            ·have hltjz:(j:Int)<(k:Int):=(by omega);have hjv:(j:Int)<(f.nb:Int):=(by omega);obtain⟨b2,off2,e2,-,hcj⟩:=HC2.o j (by rw[HNB.o];omega);simp only[Option.some.injEq,Addr.mk.injEq,and_true]at e2;obtain⟨rfl,rfl⟩:=e2;have N0:=ag (hcj 0 _ rfl);rw[Nat.add_zero]at N0;clear hcj;generalize hjn:f.blocks.2[j]!.name=jn at*;have HJN:=ag hjn;clear hjn;have n0:=(TW0.o.ak (Tw5.o.ak HK.o)).cellOf N0.o;by_cases hq:jn=yn
             ·have hqq:(jn.toList==yn.toList)=true:=(by rw[hq];exact beq_self_eq_true _);go_wp2_with fail
              refine wp_region_held_drew (S:=(fun w'=>w'.cell? ⟨w.heap.size,0,none⟩=some (.slice a0 f.nv c0)∧w'.cell? ⟨w.heap.size,1,none⟩=some (.slice a1 f.np c1)∧w'.cell? ⟨w.heap.size,2,none⟩=some (.slice (some ⟨bb,off,none⟩) f.nb c2)∧w'.cell? ⟨wb.heap.size,0,none⟩=some (.string yn)∧w'.cell? ⟨wb.heap.size,1,none⟩=some (.slice pa pn pc)∧w'.cell? ⟨wb.heap.size,2,none⟩=some (.slice qa qn qc)∧w'.cell? ⟨wb.heap.size,3,none⟩=some (.int .i64 yk)∧w'.cell? ⟨wb.heap.size,4,none⟩=some (.int .i64 yv)∧w'.cell? ⟨wb.heap.size,5,none⟩=some (.int .i64 y0)∧w'.cell? ⟨wb.heap.size,6,none⟩=some (.int .i64 y1)∧w'.cell? ⟨bb,off+j*7,none⟩=some (.string jn))) (by kernel_rfl) ?vchSs (fun ah=> ?_)
              case vchSs=>exact⟨l0,l1,l2,m0,m1,m2,m3,m4,m5,m6,n0⟩
              clear l0 l1 l2 m0 m1 m2 m3 m4 m5 m6 n0;replace Bl:=ag (Bl.o.keep ((ai.refl _ []).drew) (by simp));replace Bm:=ag (Bm.o.keep ((ai.refl _ []).drew) (by simp));replace HK:=ag (HK.o.drew);generalize World.drew _=X0 at*;obtain⟨l0,l1,l2⟩:=Bl.o.c3;obtain⟨m0,m1,m2,m3,m4,m5,m6⟩:=Bm.o.c7;simp at l0 l1 l2 m0 m1 m2 m3 m4 m5 m6;have n0:=(TW0.o.ak (Tw5.o.ak HK.o)).cellOf N0.o;refine tp 0 122 rfl ah ?_;refine tp 1 123 rfl ah ?_;refine tp 2 124 rfl ah ?_;refine tp 3 125 rfl ah ?_;refine tp 4 126 rfl ah ?_;refine tp 5 127 rfl ah ?_;refine tp 6 128 rfl ah ?_;refine tp 7 129 rfl ah ?_;refine tp 8 130 rfl ah ?_;refine wpAnyH_done (by kernel_rfl) ?_ _;clear ah;go_wp2;go_ret;exact⟨ay (by rw[←HRB.o];exact(xu hlt (blk_no2 HY.o hltj (by rw[HJN.o,Hyn.o];exact hq))).symm),(TW0.o.ak (Tw5.o.ak HK.o))⟩
             ·have hqq:(jn.toList==yn.toList)=false:=str_ne hq;go_wp2_with fail
              refine wp_region_held_drew (S:=(fun w'=>w'.cell? ⟨w.heap.size,0,none⟩=some (.slice a0 f.nv c0)∧w'.cell? ⟨w.heap.size,1,none⟩=some (.slice a1 f.np c1)∧w'.cell? ⟨w.heap.size,2,none⟩=some (.slice (some ⟨bb,off,none⟩) f.nb c2)∧w'.cell? ⟨wb.heap.size,0,none⟩=some (.string yn)∧w'.cell? ⟨wb.heap.size,1,none⟩=some (.slice pa pn pc)∧w'.cell? ⟨wb.heap.size,2,none⟩=some (.slice qa qn qc)∧w'.cell? ⟨wb.heap.size,3,none⟩=some (.int .i64 yk)∧w'.cell? ⟨wb.heap.size,4,none⟩=some (.int .i64 yv)∧w'.cell? ⟨wb.heap.size,5,none⟩=some (.int .i64 y0)∧w'.cell? ⟨wb.heap.size,6,none⟩=some (.int .i64 y1)∧w'.cell? ⟨bb,off+j*7,none⟩=some (.string jn))) (by kernel_rfl) ?vdhSs (fun ah=> ?_)
              case vdhSs=>exact⟨l0,l1,l2,m0,m1,m2,m3,m4,m5,m6,n0⟩
              clear l0 l1 l2 m0 m1 m2 m3 m4 m5 m6 n0;replace Bl:=ag (Bl.o.keep ((ai.refl _ []).drew) (by simp));replace Bm:=ag (Bm.o.keep ((ai.refl _ []).drew) (by simp));replace HK:=ag (HK.o.drew);generalize World.drew _=X0 at*;obtain⟨l0,l1,l2⟩:=Bl.o.c3;obtain⟨m0,m1,m2,m3,m4,m5,m6⟩:=Bm.o.c7;simp at l0 l1 l2 m0 m1 m2 m3 m4 m5 m6;have n0:=(TW0.o.ak (Tw5.o.ak HK.o)).cellOf N0.o;refine tp 0 122 rfl ah ?_;refine tp 1 123 rfl ah ?_;refine tp 2 124 rfl ah ?_;refine tp 3 125 rfl ah ?_;refine tp 4 126 rfl ah ?_;refine tp 5 127 rfl ah ?_;refine tp 6 128 rfl ah ?_;refine tp 7 129 rfl ah ?_;refine tp 8 130 rfl ah ?_;refine wpAnyH_done (by kernel_rfl) ?_ _;clear ah;go_wp2;go_roundw
              case rel=>
               refine⟨j+1,by omega,by go_num,HK.o,(show Hid _ from fun q hq2=> ?_)⟩;by_cases e:q=j
               ·subst e;rw[HJN.o];exact hq
               ·exact A3.o q (by omega)
              case measure=>simp[intOf];omega
            ·as_aux_lemma=>
              have hltjz:¬(j:Int)<(k:Int):=(by omega);obtain rfl:k=j:=by omega
              have P5:=A3;by_cases hsum:(1024:Int)<((BS+pn+qn:Nat):Int)
              ·go_wp2;go_ret;exact⟨ay (by rw[←HRB.o];exact(xu hlt (blk_no3 (by rw[HSn.o];omega))).symm),(TW0.o.ak (Tw5.o.ak HK.o))⟩
              go_wp2;clear A3 hltjz hltj hj;go_loopw [146] (fun i wr=>∃j:Nat,j≤pn∧i= .int .i64 j∧ai w5 wr []∧Hid (∀q,q<j→xz f y.phis.2[q]! =true)) (fun i _=>pn -(intOf i).toNat)
              case atStart=>exact⟨0,Nat.zero_le _,rfl,HK.o,fun j hj=>absurd hj (Nat.not_lt_zero _)⟩
              case round=>
               obtain⟨j,hj,rfl,hr,A3⟩:=hrel;obtain⟨wd,hwd⟩:∃wd:World,wd=wr:=⟨_,rfl⟩;subst hwd;clear l0 l1 l2 m0 m1 m2 m3 m4 m5 m6;clear Bl Bm HK;have HK:=ag hr;have Bl:=ag (Bl_w5.o.keep hr (by simp));have Bm:=ag (Bm_w5.o.keep hr (by simp));clear hr;obtain⟨l0,l1,l2⟩:=Bl.o.c3;obtain⟨m0,m1,m2,m3,m4,m5,m6⟩:=Bm.o.c7;simp at l0 l1 l2 m0 m1 m2 m3 m4 m5 m6;by_cases hltj:j<pn
               ·as_aux_lemma=>
                 have hltjz:(j:Int)<(pn:Int):=(by omega);obtain⟨pb,po,rfl,hpb,hpcell⟩:=HPC.o j hltj;have n0:=(KB.o.ak HK.o).cellOf (hpcell 0 _ rfl);have n1:=(KB.o.ak HK.o).cellOf (hpcell 1 _ rfl);have n2:=(KB.o.ak HK.o).cellOf (hpcell 2 _ rfl);simp only[Nat.add_zero]at n0;have hpa:=(HYB.o.phi _ (az (l:=y.phis.2) (k:=j) (by rw[HPN.o];exact hltj))).keep (KB.o.ak HK.o);clear hpcell;generalize hp:y.phis.2[j]! =p at*;have HP:=ag hp;clear hp;obtain⟨u1,v1,e1,hle9,hm1,hz1⟩:=bu.open_ hpa.1;obtain⟨u2,v2,e2,-,hm2,hz2⟩:=bu.open_ hpa.2;rw[e1]at n1;rw[e2]at n2;have hpb9:p.args.2.length≤9223372036854775807:=(by unfold maxLen at hm1;omega);have HZ1:=ag hz1;have HZ2:=ag hz2;clear e1 e2 hpa hz1 hz2 hle9;generalize hPA:p.args.2.length=pna at*;generalize hPF:p.froms.2.length=pnf at*;have HPA:=ag hPA;have HPF:=ag hPF;clear hPA hPF;have CD:=ag (fun w=>in_any p.dst f.nv w);generalize hdd:p.dst=pdst at*;have HDD:=ag hdd;clear hdd;generalize hDI:inB pdst f.nv=DI at*;have HDI:=ag hDI;clear hDI;clear l0 l1 l2 m0 m1 m2 m3 m4 m5 m6;have bmx:=Blk.new wd 95 #[.int .i64 pdst,.slice u1 pna v1,.slice u2 pnf v2];have k3:ai wd (wd.alloc (.cells #[.int .i64 pdst,.slice u1 pna v1,.slice u2 pnf v2] 95)) []:=(ai.refl wd []).alloc _;replace Bl:=Bl.kb k3;replace Bm:=Bm.kb k3;replace HK:=HK.kt k3;clear k3;have Bq:=ag bmx;clear bmx;obtain⟨l0,l1,l2⟩:=Bl.o.c3;obtain⟨m0,m1,m2,m3,m4,m5,m6⟩:=Bm.o.c7;obtain⟨q0,q1,q2⟩:=Bq.o.c3;simp at l0 l1 l2 m0 m1 m2 m3 m4 m5 m6 q0 q1 q2;cases DI with
                 |false=>
                  go_wp2_with (first |(go_at_call 84;refine(CD.o _).mono ?_;rintro e w3 ⟨rfl,rfl⟩))
                  go_ret;exact⟨ay (by rw[←HRB.o];exact(xu hlt (Ba HY.o (Dv (by rw[HPN.o];exact hltj) (by rw[HP.o];exact phi_no1 (by rw[HDD.o];exact HDI.o))))).symm),(TW0.o.ak (Tw5.o.ak HK.o))⟩
                 |true=>
                  by_cases hle:pna=pnf
                  ·subst hle;have hne:((pna:Int) !=(pna:Int))=false:=(by simp);by_cases h1l:(pna:Int)<1
                   ·go_wp2_with (first |(go_at_call 84;refine(CD.o _).mono ?_;rintro e w3 ⟨rfl,rfl⟩))
                    go_ret;exact⟨ay (by rw[←HRB.o];exact(xu hlt (Ba HY.o (Dv (by rw[HPN.o];exact hltj) (by rw[HP.o];exact phi_no3 (by rw[HPA.o];omega))))).symm),(TW0.o.ak (Tw5.o.ak HK.o))⟩
                   go_wp2_with (first |(go_at_call 84;refine(CD.o _).mono ?_;rintro e w3 ⟨rfl,rfl⟩))
                   clear n0 n1 n2;have TPW:Hid (ai wd (wd.alloc (.cells #[.int .i64 pdst,.slice u1 pna v1,.slice u2 pna v2] 95)) []):=(ai.refl wd []).alloc _;clear l0 l1 l2 m0 m1 m2 m3 m4 m5 m6 q0 q1 q2;generalize wd.alloc (.cells #[.int .i64 pdst,.slice u1 pna v1,.slice u2 pna v2] 95)=WP at*;have Bl_WP:=Bl;have Bm_WP:=Bm;have Bq_WP:=Bq;have TWP:=HK;clear HK;have HK:=ag (ai.refl WP []);obtain⟨l0,l1,l2⟩:=Bl.o.c3;obtain⟨m0,m1,m2,m3,m4,m5,m6⟩:=Bm.o.c7;obtain⟨q0,q1,q2⟩:=Bq.o.c3;simp at l0 l1 l2 m0 m1 m2 m3 m4 m5 m6 q0 q1 q2;go_loopw [173] (fun i wr=>∃i2:Nat,i2≤pna∧i= .int .i64 i2∧ai WP wr []∧Hid (∀q,q<i2→inB p.args.2[q]! f.nv=true∧inB p.froms.2[q]! f.nb=true)) (fun i _=>pna -(intOf i).toNat)
                   case atStart=>exact⟨0,Nat.zero_le _,rfl,ai.refl _ _,fun j hj=>absurd hj (Nat.not_lt_zero _)⟩
                   case round=>
                    obtain⟨i2,hi2,rfl,hr,A4⟩:=hrel;clear l0 l1 l2 m0 m1 m2 m3 m4 m5 m6 q0 q1 q2;clear Bl Bm Bq HK;have HK:=ag hr;have Bl:=ag (Bl_WP.o.keep hr (by simp));have Bm:=ag (Bm_WP.o.keep hr (by simp));have Bq:=ag (Bq_WP.o.keep hr (by simp));clear hr;obtain⟨l0,l1,l2⟩:=Bl.o.c3;obtain⟨m0,m1,m2,m3,m4,m5,m6⟩:=Bm.o.c7;obtain⟨q0,q1,q2⟩:=Bq.o.c3;simp at l0 l1 l2 m0 m1 m2 m3 m4 m5 m6 q0 q1 q2;by_cases hlt2:i2<pna
                    ·as_aux_lemma=>
                      have hlt2z:(i2:Int)<(pna:Int):=(by omega);rcases HZ1.o with hz|⟨ra,ro,rfl,-,hra⟩
                      ·omega
                      rcases HZ2.o with hz|⟨sa,so,rfl,-,hsa⟩
                      ·omega
                      have o0:=(TPW.o.ak HK.o).cellOf (hra i2 hlt2);have o1:=(TPW.o.ak HK.o).cellOf (hsa i2 (by first |exact hlt2|omega));clear hra hsa;have C4:=ag (fun w=>in_any p.args.2[i2]! f.nv w);have C5:=ag (fun w=>in_any p.froms.2[i2]! f.nb w);generalize hza:p.args.2[i2]! =za at*;generalize hzf:p.froms.2[i2]! =zf at*;have HZA:=ag hza;have HZF:=ag hzf;clear hza hzf;generalize hIA:inB za f.nv=IA at*;generalize hIF:inB zf f.nb=IF at*;have HIA:=ag hIA;have HIF:=ag hIF;clear hIA hIF;cases IA with
                      |false=>
                       go_wp2_with (first |(go_at_call 84;refine(C4.o _).mono ?_;rintro e w3 ⟨rfl,rfl⟩)|(go_at_call 84;refine(C5.o _).mono ?_;rintro e w3 ⟨rfl,rfl⟩))
                       go_ret;exact⟨ay (by rw[←HRB.o];exact(xu hlt (Ba HY.o (Dv (by rw[HPN.o];exact hltj) (by rw[HP.o];exact phi_no4 (j:=i2) (by rw[HPA.o];exact hlt2) (by rw[HZA.o];exact HIA.o))))).symm),(TW0.o.ak (Tw5.o.ak (TWP.o.ak HK.o)))⟩
                      |true=>
                       cases IF with
                       |false=>
                        go_wp2_with (first |(go_at_call 84;refine(C4.o _).mono ?_;rintro e w3 ⟨rfl,rfl⟩)|(go_at_call 84;refine(C5.o _).mono ?_;rintro e w3 ⟨rfl,rfl⟩))
                        go_ret;exact⟨ay (by rw[←HRB.o];exact(xu hlt (Ba HY.o (Dv (by rw[HPN.o];exact hltj) (by rw[HP.o];exact phi_no5 (j:=i2) (by rw[HPF.o];exact hlt2) (by rw[HZF.o];exact HIF.o))))).symm),(TW0.o.ak (Tw5.o.ak (TWP.o.ak HK.o)))⟩
                       |true=>
                        go_wp2_with (first |(go_at_call 84;refine(C4.o _).mono ?_;rintro e w3 ⟨rfl,rfl⟩)|(go_at_call 84;refine(C5.o _).mono ?_;rintro e w3 ⟨rfl,rfl⟩))
                        go_roundw
                        case rel=>
                         refine⟨i2+1,by omega,by go_num,HK.o,(show Hid _ from fun q hq2=> ?_)⟩;by_cases e:q=i2
                         ·subst e;rw[HZA.o,HZF.o];exact⟨HIA.o,HIF.o⟩
                         ·exact A4.o q (by omega)
                        case measure=>simp[intOf];omega
                    ·have hlt2z:¬(i2:Int)<(pna:Int):=(by omega);obtain rfl:pna=i2:=by omega
                     go_wp2;go_roundw
                     case rel=>
                      refine⟨j+1,by omega,by go_num,(TWP.o.ak HK.o),(show Hid _ from fun q hq2=> ?_)⟩;by_cases e:q=j
                      ·subst e;rw[HP.o];exact phi_yes (by rw[HDD.o];exact HDI.o) (by rw[HPA.o,HPF.o]) (by rw[HPA.o];omega) (fun j hj=>A4.o j (by rw[←HPA.o];exact hj))
                      ·exact A3.o q (by omega)
                     case measure=>simp[intOf];omega
                  ·have hne:((pna:Int) !=(pnf:Int))=true:=(by simp;omega);go_wp2_with (first |(go_at_call 84;refine(CD.o _).mono ?_;rintro e w3 ⟨rfl,rfl⟩))
                   go_ret;exact⟨ay (by rw[←HRB.o];exact(xu hlt (Ba HY.o (Dv (by rw[HPN.o];exact hltj) (by rw[HP.o];exact phi_no2 (by rw[HPA.o,HPF.o];exact hle))))).symm),(TW0.o.ak (Tw5.o.ak HK.o))⟩
               ·as_aux_lemma=>
                 have hltjz:¬(j:Int)<(pn:Int):=(by omega);obtain rfl:pn=j:=by omega
                 have P6:=A3;go_wp2;clear A3 hltjz hltj hj;go_loopw [199] (fun i wr=>∃j:Nat,j≤qn∧i= .int .i64 j∧ai w5 wr []∧Hid (∀q,q<j→lg f y.insts.2[q]! =true)) (fun i _=>qn -(intOf i).toNat)
                 case atStart=>exact⟨0,Nat.zero_le _,rfl,HK.o,fun j hj=>absurd hj (Nat.not_lt_zero _)⟩
                 case round=>
                  obtain⟨j,hj,rfl,hr,A3⟩:=hrel;obtain⟨we,hwe⟩:∃we:World,we=wr:=⟨_,rfl⟩;subst hwe;clear l0 l1 l2 m0 m1 m2 m3 m4 m5 m6;clear Bl Bm HK;have HK:=ag hr;have Bl:=ag (Bl_w5.o.keep hr (by simp));have Bm:=ag (Bm_w5.o.keep hr (by simp));clear hr;obtain⟨l0,l1,l2⟩:=Bl.o.c3;obtain⟨m0,m1,m2,m3,m4,m5,m6⟩:=Bm.o.c7;simp at l0 l1 l2 m0 m1 m2 m3 m4 m5 m6;by_cases hltj:j<qn
                  ·as_aux_lemma=>
                    have hltjz:(j:Int)<(qn:Int):=(by omega);obtain⟨pb,po,rfl,hpb,hpcell⟩:=HQC.o j hltj;have n0:=(KB.o.ak HK.o).cellOf (hpcell 0 _ rfl);have n1:=(KB.o.ak HK.o).cellOf (hpcell 1 _ rfl);have n2:=(KB.o.ak HK.o).cellOf (hpcell 2 _ rfl);have n3:=(KB.o.ak HK.o).cellOf (hpcell 3 _ rfl);simp only[Nat.add_zero]at n0;have hpa:=Row.keep (HYB.o.inst _ (az (l:=y.insts.2) (k:=j) (by rw[HQN.o];exact hltj))) (KB.o.ak HK.o);clear hpcell;generalize hp:y.insts.2[j]! =p at*;have HP:=ag hp;clear hp;obtain⟨u1,v1,e1,-,hm1,hz1⟩:=bu.open_ hpa;rw[e1]at n2;have HZ1:=ag hz1;clear e1 hpa hz1;generalize hPA:p.args.2.length=pna at*;have HPA:=ag hPA;clear hPA;generalize hPO:p.op=pop at*;have HPO:=ag hPO;clear hPO;generalize hdd:p.dst=pdst at*;have HDD:=ag hdd;clear hdd;generalize hpn2:p.num=pnum at*;have HPM:=ag hpn2;clear hpn2;by_cases hop:pop<0
                    ·clear l0 l1 l2 m0 m1 m2 m3 m4 m5 m6;have bmx:=Blk.new we 43 #[.int .i64 pop,.int .i64 pdst,.slice u1 pna v1,.int .i64 pnum];have k3:ai we (we.alloc (.cells #[.int .i64 pop,.int .i64 pdst,.slice u1 pna v1,.int .i64 pnum] 43)) []:=(ai.refl we []).alloc _;replace Bl:=Bl.kb k3;replace Bm:=Bm.kb k3;replace HK:=HK.kt k3;clear k3;have Bq:=ag bmx;clear bmx;obtain⟨l0,l1,l2⟩:=Bl.o.c3;obtain⟨m0,m1,m2,m3,m4,m5,m6⟩:=Bm.o.c7;obtain⟨q0,q1,q2,q3⟩:=Bq.o.c4;simp at l0 l1 l2 m0 m1 m2 m3 m4 m5 m6 q0 q1 q2 q3;go_wp2;go_ret;exact⟨ay (by rw[←HRB.o];exact(xu hlt (Ba HY.o (block_no2 (by rw[HQN.o];exact hltj) (by rw[HP.o];exact inst_no1 (by rw[HPO.o];omega))))).symm),(TW0.o.ak (Tw5.o.ak HK.o))⟩
                    by_cases hop2:26<pop
                    ·clear l0 l1 l2 m0 m1 m2 m3 m4 m5 m6;have bmx:=Blk.new we 43 #[.int .i64 pop,.int .i64 pdst,.slice u1 pna v1,.int .i64 pnum];have k3:ai we (we.alloc (.cells #[.int .i64 pop,.int .i64 pdst,.slice u1 pna v1,.int .i64 pnum] 43)) []:=(ai.refl we []).alloc _;replace Bl:=Bl.kb k3;replace Bm:=Bm.kb k3;replace HK:=HK.kt k3;clear k3;have Bq:=ag bmx;clear bmx;obtain⟨l0,l1,l2⟩:=Bl.o.c3;obtain⟨m0,m1,m2,m3,m4,m5,m6⟩:=Bm.o.c7;obtain⟨q0,q1,q2,q3⟩:=Bq.o.c4;simp at l0 l1 l2 m0 m1 m2 m3 m4 m5 m6 q0 q1 q2 q3;go_wp2;go_ret;exact⟨ay (by rw[←HRB.o];exact(xu hlt (Ba HY.o (block_no2 (by rw[HQN.o];exact hltj) (by rw[HP.o];exact inst_no1 (by rw[HPO.o];omega))))).symm),(TW0.o.ak (Tw5.o.ak HK.o))⟩
                    obtain⟨kk,rfl⟩:∃kk:Nat,pop=(kk:Int):=⟨pop.toNat,by omega⟩;have hkk:kk<27:=(by omega);have hkkI:(kk:Int)<27:=(by omega);have hkk0:(0:Int)≤(kk:Int):=(by omega);clear l0 l1 l2 m0 m1 m2 m3 m4 m5 m6;have bmx:=Blk.new we 43 #[.int .i64 (kk:Int),.int .i64 pdst,.slice u1 pna v1,.int .i64 pnum];have k3:ai we (we.alloc (.cells #[.int .i64 (kk:Int),.int .i64 pdst,.slice u1 pna v1,.int .i64 pnum] 43)) []:=(ai.refl we []).alloc _;replace Bl:=Bl.kb k3;replace Bm:=Bm.kb k3;replace HK:=HK.kt k3;clear k3;have Bq:=ag bmx;clear bmx;obtain⟨l0,l1,l2⟩:=Bl.o.c3;obtain⟨m0,m1,m2,m3,m4,m5,m6⟩:=Bm.o.c7;obtain⟨q0,q1,q2,q3⟩:=Bq.o.c4;simp at l0 l1 l2 m0 m1 m2 m3 m4 m5 m6 q0 q1 q2 q3;have CRW:=ag (fun w=>rows_at kk hkk w);have TPW0:Hid (ai we (we.alloc (.cells #[.int .i64 (kk:Int),.int .i64 pdst,.slice u1 pna v1,.int .i64 pnum] 43)) []):=(ai.refl we []).alloc _;go_wp2_with fail
                    clear n0 n1 n2 n3;clear l0 l1 l2 m0 m1 m2 m3 m4 m5 m6 q0 q1 q2 q3;generalize we.alloc (.cells #[.int .i64 (kk:Int),.int .i64 pdst,.slice u1 pna v1,.int .i64 pnum] 43)=WQ at*;have Bl_WQ:=Bl;have Bm_WQ:=Bm;have Bq_WQ:=Bq;have TWQ:=HK;clear HK;have HK:=ag (ai.refl WQ []);obtain⟨l0,l1,l2⟩:=Bl.o.c3;obtain⟨m0,m1,m2,m3,m4,m5,m6⟩:=Bm.o.c7;obtain⟨q0,q1,q2,q3⟩:=Bq.o.c4;simp at l0 l1 l2 m0 m1 m2 m3 m4 m5 m6 q0 q1 q2 q3;go_upto_region 55 with(fail)
                    go_cut [19]from 211 to 215 (fun t19 wx=>∃rb:Nat,t19= .pointer (some ⟨rb,0,none⟩)∧ai WQ wx []∧Blk wx rb 110 #[.string (jb kk),.string (dh kk),.string (jq kk)])
                    case first=>
                     refine wp_region_held_drew (S:=(fun w'=>w'.cell? ⟨we.heap.size,0,none⟩=some (.int .i64 (kk:Int)))) (by kernel_rfl) ?zhSs (fun ah=> ?_)
                     case zhSs=>exact q0
                     clear l0 l1 l2 m0 m1 m2 m3 m4 m5 m6 q0 q1 q2 q3;have KX:=ag ((ai.refl WQ []).drew);generalize World.drew _=X0 at*;have q0:=(Bq.o.keep KX.o (by simp)).cell 0;simp at q0;refine tp 1 212 rfl ah ?_;refine tp 2 213 rfl ah ?_;refine wpAnyH_ready (rs:=[0,5]) (by kernel_rfl) (by simp) ?_;refine AllReadyH.cons rfl (fun K hK=> ?_) ?_
                     ·clear ah;go_simp
                      (with_reducible refine(CRW.o _).mono ?_)
                      rintro e X3 ⟨g,rfl,k3,hr0,hr1,hr2⟩;show K _ _;have KXx:=ag (KX.o.ak k3);have RR:=ag (And.intro hr0 (And.intro hr1 hr2));clear k3 hr0 hr1 hr2 KX q0;have KX:=KXx;clear KXx;have q0:=(Bq.o.keep KX.o (by simp)).cell 0;simp at q0;refine hK.out _ _ (by exact q0) fun ah=> ?_;clear hK K;try simp only[Act.put,sA,sB,sC]
                      refine tp 3 214 rfl ah ?_;refine wpAnyH_ready (rs:=[4,5]) (by kernel_rfl) (by simp) ?_;refine AllReadyH.cons rfl (fun K hK=> ?_) ?_
                      ·clear ah;obtain⟨r0,r1,r2⟩:=RR.o;go_simp;clear r0 r1 r2;refine hK.out _ _ (by exact q0) fun ah=> ?_;clear hK K;try simp only[Act.put,sA,sB,sC]
                       refine wpAnyH_ready (rs:=[5]) (by kernel_rfl) (by simp) ?_;refine AllReadyH.cons rfl (fun K hK=> ?_) ?_
                       ·clear ah;go_simp;have k3:ai X3 (X3.alloc (.cells #[.string ⟨#[]⟩,.string ⟨#[]⟩,.string ⟨#[]⟩] 110)) []:=(ai.refl X3 []).alloc _;have BRx:=ag (Blk.new X3 110 #[.string ⟨#[]⟩,.string ⟨#[]⟩,.string ⟨#[]⟩]);have HGE:=ag KX.o.size;have KXx:=ag (KX.o.ak k3);have RRx:=ag (And.intro (k3.cellOf RR.o.1) (And.intro (k3.cellOf RR.o.2.1) (k3.cellOf RR.o.2.2)));clear RR;have RR:=RRx;clear RRx;clear k3 KX q0;generalize X3.alloc (.cells #[.string ⟨#[]⟩,.string ⟨#[]⟩,.string ⟨#[]⟩] 110)=X6 at*;generalize X3.heap.size=rb at*;have KX:=KXx;have BR:=BRx;clear BRx;clear KXx;have q0:=(Bq.o.keep KX.o (by simp)).cell 0;simp at q0;refine hK.out _ _ (by exact q0) fun ah=> ?_;clear hK K;try simp only[Act.put,sA,sB,sC]
                        refine wpAnyH_ready (rs:=[6]) (by kernel_rfl) (by simp) ?_;refine AllReadyH.cons rfl (fun K hK=> ?_) ?_
                        ·clear ah;have b0:=BR.o.cell 0;have f0:=BR.o.frozen 0;have b1:=BR.o.cell 1;have f1:=BR.o.frozen 1;have b2:=BR.o.cell 2;have f2:=BR.o.frozen 2;simp at b0 b1 b2;go_simp;have BRx:=ag (Ch (a:= .string (jb kk)) (b:= .string (dh kk)) (c:= .string (jq kk)) BR.o);have KXx:=ag (zn (a:= .string (jb kk)) (b:= .string (dh kk)) (c:= .string (jq kk)) KX.o HGE.o);clear b0 b1 b2 f0 f1 f2 KX BR RR q0;generalize(((X6.setCell ⟨rb,0,none⟩ (.string (jb kk))).setCell ⟨rb,1,none⟩ (.string (dh kk))).setCell ⟨rb,2,none⟩ (.string (jq kk)))=X7 at*;have KX:=KXx;have BR:=BRx;clear BRx;clear KXx;have q0:=(Bq.o.keep KX.o (by simp)).cell 0;simp at q0;refine hK.out _ _ (by exact q0) fun ah=> ?_;clear hK K;try simp only[Act.put,sA,sB,sC]
                         refine wpAnyH_done (by kernel_rfl) ?_ _;go_wp2;go_meet;exact⟨_,rfl,KX.o,BR.o⟩
                        exact t4
                       exact t4
                      refine AllReadyH.cons rfl (fun K hK=> ?_) ?_
                      ·clear ah;go_simp;have k3:ai X3 (X3.alloc (.cells #[.string ⟨#[]⟩,.string ⟨#[]⟩,.string ⟨#[]⟩] 110)) []:=(ai.refl X3 []).alloc _;have BRx:=ag (Blk.new X3 110 #[.string ⟨#[]⟩,.string ⟨#[]⟩,.string ⟨#[]⟩]);have HGE:=ag KX.o.size;have KXx:=ag (KX.o.ak k3);have RRx:=ag (And.intro (k3.cellOf RR.o.1) (And.intro (k3.cellOf RR.o.2.1) (k3.cellOf RR.o.2.2)));clear RR;have RR:=RRx;clear RRx;clear k3 KX q0;generalize X3.alloc (.cells #[.string ⟨#[]⟩,.string ⟨#[]⟩,.string ⟨#[]⟩] 110)=X8 at*;generalize X3.heap.size=rb at*;have KX:=KXx;have BR:=BRx;clear BRx;clear KXx;have q0:=(Bq.o.keep KX.o (by simp)).cell 0;simp at q0;refine hK.out _ _ (by exact q0) fun ah=> ?_;clear hK K;try simp only[Act.put,sA,sB,sC]
                       refine wpAnyH_ready (rs:=[4]) (by kernel_rfl) (by simp) ?_;refine AllReadyH.cons rfl (fun K hK=> ?_) ?_
                       ·clear ah;obtain⟨r0,r1,r2⟩:=RR.o;go_simp;clear r0 r1 r2;refine hK.out _ _ (by exact q0) fun ah=> ?_;clear hK K;try simp only[Act.put,sA,sB,sC]
                        refine wpAnyH_ready (rs:=[6]) (by kernel_rfl) (by simp) ?_;refine AllReadyH.cons rfl (fun K hK=> ?_) ?_
                        ·clear ah;have b0:=BR.o.cell 0;have f0:=BR.o.frozen 0;have b1:=BR.o.cell 1;have f1:=BR.o.frozen 1;have b2:=BR.o.cell 2;have f2:=BR.o.frozen 2;simp at b0 b1 b2;go_simp;have BRx:=ag (Ch (a:= .string (jb kk)) (b:= .string (dh kk)) (c:= .string (jq kk)) BR.o);have KXx:=ag (zn (a:= .string (jb kk)) (b:= .string (dh kk)) (c:= .string (jq kk)) KX.o HGE.o);clear b0 b1 b2 f0 f1 f2 KX BR RR q0;generalize(((X8.setCell ⟨rb,0,none⟩ (.string (jb kk))).setCell ⟨rb,1,none⟩ (.string (dh kk))).setCell ⟨rb,2,none⟩ (.string (jq kk)))=X10 at*;have KX:=KXx;have BR:=BRx;clear BRx;clear KXx;have q0:=(Bq.o.keep KX.o (by simp)).cell 0;simp at q0;refine hK.out _ _ (by exact q0) fun ah=> ?_;clear hK K;try simp only[Act.put,sA,sB,sC]
                         refine wpAnyH_done (by kernel_rfl) ?_ _;go_wp2;go_meet;exact⟨_,rfl,KX.o,BR.o⟩
                        exact t4
                       exact t4
                      exact t4
                     refine AllReadyH.cons rfl (fun K hK=> ?_) ?_
                     ·clear ah;go_simp;have k3:ai X0 (X0.alloc (.cells #[.string ⟨#[]⟩,.string ⟨#[]⟩,.string ⟨#[]⟩] 110)) []:=(ai.refl X0 []).alloc _;have BRx:=ag (Blk.new X0 110 #[.string ⟨#[]⟩,.string ⟨#[]⟩,.string ⟨#[]⟩]);have HGE:=ag KX.o.size;have KXx:=ag (KX.o.ak k3);clear k3 KX q0;generalize X0.alloc (.cells #[.string ⟨#[]⟩,.string ⟨#[]⟩,.string ⟨#[]⟩] 110)=X11 at*;generalize X0.heap.size=rb at*;have KX:=KXx;have BR:=BRx;clear BRx;clear KXx;have q0:=(Bq.o.keep KX.o (by simp)).cell 0;simp at q0;refine hK.out _ _ (by exact q0) fun ah=> ?_;clear hK K;try simp only[Act.put,sA,sB,sC]
                      refine wpAnyH_ready (rs:=[0]) (by kernel_rfl) (by simp) ?_;refine AllReadyH.cons rfl (fun K hK=> ?_) ?_
                      ·clear ah;go_simp
                       (with_reducible refine(CRW.o _).mono ?_)
                       rintro e X12 ⟨g,rfl,k3,hr0,hr1,hr2⟩;show K _ _;have KXx:=ag (KX.o.ak k3);have BRx:=ag (BR.o.keep k3 (by simp));have RR:=ag (And.intro hr0 (And.intro hr1 hr2));clear k3 hr0 hr1 hr2 KX q0 BR;have KX:=KXx;have BR:=BRx;clear BRx;clear KXx;have q0:=(Bq.o.keep KX.o (by simp)).cell 0;simp at q0;refine hK.out _ _ (by exact q0) fun ah=> ?_;clear hK K;try simp only[Act.put,sA,sB,sC]
                       refine tp 3 214 rfl ah ?_;refine wpAnyH_ready (rs:=[4]) (by kernel_rfl) (by simp) ?_;refine AllReadyH.cons rfl (fun K hK=> ?_) ?_
                       ·clear ah;obtain⟨r0,r1,r2⟩:=RR.o;go_simp;clear r0 r1 r2;refine hK.out _ _ (by exact q0) fun ah=> ?_;clear hK K;try simp only[Act.put,sA,sB,sC]
                        refine wpAnyH_ready (rs:=[6]) (by kernel_rfl) (by simp) ?_;refine AllReadyH.cons rfl (fun K hK=> ?_) ?_
                        ·clear ah;have b0:=BR.o.cell 0;have f0:=BR.o.frozen 0;have b1:=BR.o.cell 1;have f1:=BR.o.frozen 1;have b2:=BR.o.cell 2;have f2:=BR.o.frozen 2;simp at b0 b1 b2;go_simp;have BRx:=ag (Ch (a:= .string (jb kk)) (b:= .string (dh kk)) (c:= .string (jq kk)) BR.o);have KXx:=ag (zn (a:= .string (jb kk)) (b:= .string (dh kk)) (c:= .string (jq kk)) KX.o HGE.o);clear b0 b1 b2 f0 f1 f2 KX BR RR q0;generalize(((X12.setCell ⟨rb,0,none⟩ (.string (jb kk))).setCell ⟨rb,1,none⟩ (.string (dh kk))).setCell ⟨rb,2,none⟩ (.string (jq kk)))=X15 at*;have KX:=KXx;have BR:=BRx;clear BRx;clear KXx;have q0:=(Bq.o.keep KX.o (by simp)).cell 0;simp at q0;refine hK.out _ _ (by exact q0) fun ah=> ?_;clear hK K;try simp only[Act.put,sA,sB,sC]
                         refine wpAnyH_done (by kernel_rfl) ?_ _;go_wp2;go_meet;exact⟨_,rfl,KX.o,BR.o⟩
                        exact t4
                       exact t4
                      exact t4
                     exact t4
                    case rest=>
                     obtain⟨rb,rfl,k3,hbr⟩:=hcut;clear l0 l1 l2 m0 m1 m2 m3 m4 m5 m6 q0 q1 q2 q3;replace Bl:=Bl.kb k3;replace Bm:=Bm.kb k3;replace Bq:=Bq.kb k3;replace HK:=HK.kt k3;obtain⟨l0,l1,l2⟩:=Bl.o.c3;obtain⟨m0,m1,m2,m3,m4,m5,m6⟩:=Bm.o.c7;obtain⟨q0,q1,q2,q3⟩:=Bq.o.c4;simp at l0 l1 l2 m0 m1 m2 m3 m4 m5 m6 q0 q1 q2 q3;clear k3;have Br:=ag hbr;clear hbr;obtain⟨r0,r1,r2⟩:=Br.o.c3;simp at r0 r1 r2;have hkw:=kword0 kk hkk;have hkm:=kmakes0 kk hkk;have hnt:(dh kk).size=ntk (kk:Int):=rfl;have hntB:(dh kk).size≤100:=(qz kk hkk).1;generalize hwd:jb kk=wd' at*;generalize htk:dh kk=tk' at*;generalize hmk:jq kk=mk' at*;have HNT:=ag hnt;clear hnt hwd htk hmk;have hc1:=hkw.1;have hc2:=hkw.2;clear hkw;generalize hMK:mk1 (kk:Int)=MK at*;have HMK:=ag hMK;clear hMK;generalize hE0:decide (kk=0)=K0 at*;generalize hE25:decide (kk=25)=K25 at*;have HE0:=ag hE0;have HE25:=ag hE25;clear hE0 hE25;have CD:=ag (fun w=>in_any pdst f.nv w);generalize hDI:inB pdst f.nv=DI at*;have HDI:=ag hDI;clear hDI
                     skip
                     obtain⟨BD,hBD⟩:∃B,(!(pna==tk'.size)|| !(if MK=true then DI else pdst== -1)|| !(pnum==0||(K0||K25)))=B:=⟨_,rfl⟩;have HBL:=ag hBD;clear hBD;have hk0:((kk:Int)==0)=K0:=(by rw[←HE0.o,Bool.eq_iff_iff];simp);have hk25:((kk:Int)==25)=K25:=(by rw[←HE25.o,Bool.eq_iff_iff];simp;omega);have HBI:=ag (show lg f p=(!BD&&p.args.2.all (inB · f.nv)) by rw[←HBL.o,inst_bd (by rw[HPO.o];omega),HPA.o,HPO.o,HDD.o,HPM.o,HMK.o,HDI.o,←HNT.o,hk0,hk25]);clear hk0 hk25;go_upto_region 56 with(fail)
                     generalize Value.agg #[.int .i64 (kk:Int),.int .i64 pdst,.slice u1 pna v1,.int .i64 pnum]=V202;go_cut [258]from 216 to 258 (fun t9 wz=>t9= .bool BD∧ai WQ wz [])
                     case first=>
                      by_cases hle:pna=tk'.size
                      ·as_aux_lemma=>
                        have hne:((pna:Int) !=(tk'.size:Int))=false:=(by simp;omega);have hle2:(pna==tk'.size)=true:=(by simpa using hle);rcases Bool.eq_false_or_eq_true (pdst== -1)with hd1|hd1
                        ·have hd1n:(pdst != -1)=false:=(by show(!(pdst== -1))=false;rw[hd1];rfl);cases MK with
                         |true=>
                          rw[Bool.not_true]at hkm;have hdi:DI=false:=(by rw[←HDI.o,show pdst= -1 by simpa using hd1];rfl);subst hdi;go_wp2;go_meet;exact⟨by rw[←HBL.o];simp[*],HK.o⟩
                         |false=>
                          rw[Bool.not_false]at hkm;rcases Bool.eq_false_or_eq_true (pnum==0)with hz0|hz0
                          ·have hz1:(pnum !=0)=false:=(by show(!(pnum==0))=_;rw[hz0];rfl);go_wp2;go_meet;exact⟨by rw[←HBL.o];simp[*],HK.o⟩
                          ·have hz1:(pnum !=0)=true:=(by show(!(pnum==0))=_;rw[hz0];rfl);cases K0 with
                           |true=>
                            go_wp2;go_meet;exact⟨by rw[←HBL.o];simp[*],HK.o⟩
                           |false=>
                            cases K25
                            all_goals
                             go_wp2;go_meet;exact⟨by rw[←HBL.o];simp[*],HK.o⟩
                        ·have hd1n:(pdst != -1)=true:=(by show(!(pdst== -1))=true;rw[hd1];rfl);cases MK with
                         |false=>
                          rw[Bool.not_false]at hkm;go_wp2;go_meet;exact⟨by rw[←HBL.o];simp[*],HK.o⟩
                         |true=>
                          rw[Bool.not_true]at hkm;cases DI with
                          |false=>
                           go_wp2_with (first |(go_at_call 84;refine(CD.o _).mono ?_;rintro e w3 ⟨rfl,rfl⟩))
                           go_meet;exact⟨by rw[←HBL.o];simp[*],HK.o⟩
                          |true=>
                           rcases Bool.eq_false_or_eq_true (pnum==0)with hz0|hz0
                           ·have hz1:(pnum !=0)=false:=(by show(!(pnum==0))=_;rw[hz0];rfl);go_wp2_with (first |(go_at_call 84;refine(CD.o _).mono ?_;rintro e w3 ⟨rfl,rfl⟩))
                            go_meet;exact⟨by rw[←HBL.o];simp[*],HK.o⟩
                           ·have hz1:(pnum !=0)=true:=(by show(!(pnum==0))=_;rw[hz0];rfl);cases K0 with
                            |true=>
                             go_wp2_with (first |(go_at_call 84;refine(CD.o _).mono ?_;rintro e w3 ⟨rfl,rfl⟩))
                             go_meet;exact⟨by rw[←HBL.o];simp[*],HK.o⟩
                            |false=>
                             cases K25
                             all_goals
                              go_wp2_with (first |(go_at_call 84;refine(CD.o _).mono ?_;rintro e w3 ⟨rfl,rfl⟩))
                              go_meet;exact⟨by rw[←HBL.o];simp[*],HK.o⟩
                      ·as_aux_lemma=>
                        have hne:((pna:Int) !=(tk'.size:Int))=true:=(by simp;omega);have hle2:(pna==tk'.size)=false:=(by simpa using hle);go_wp2;go_meet;exact⟨by rw[←HBL.o];simp[*],HK.o⟩
                     case rest=>
                      as_aux_lemma=>
                       obtain⟨rfl,hr⟩:=hcut;clear r0 r1 r2 Br;clear l0 l1 l2 m0 m1 m2 m3 m4 m5 m6 q0 q1 q2 q3;clear Bl Bm Bq HK;have HK:=ag hr;have Bl:=ag (Bl_WQ.o.keep hr (by simp));have Bm:=ag (Bm_WQ.o.keep hr (by simp));have Bq:=ag (Bq_WQ.o.keep hr (by simp));clear hr;obtain⟨l0,l1,l2⟩:=Bl.o.c3;obtain⟨m0,m1,m2,m3,m4,m5,m6⟩:=Bm.o.c7;obtain⟨q0,q1,q2,q3⟩:=Bq.o.c4;simp at l0 l1 l2 m0 m1 m2 m3 m4 m5 m6 q0 q1 q2 q3;cases BD with
                       |true=>
                        go_wp2;go_ret;exact⟨ay (by rw[←HRB.o];exact(xu hlt (Ba HY.o (block_no2 (by rw[HQN.o];exact hltj) (by rw[HP.o];exact(by rw[HBI.o];rfl))))).symm),(TW0.o.ak (Tw5.o.ak (TWQ.o.ak HK.o)))⟩
                       |false=>
                        have hpna:pna=tk'.size:=by
                         have h:=HBL.o;simp only[Bool.or_eq_false_iff,Bool.not_eq_false']at h
                         simpa using h.1.1
                        have HBI2:=ag (show lg f p=p.args.2.all (inB · f.nv) by rw[HBI.o];rfl);go_wp2;go_loopw [262] (fun i wr=>∃i2:Nat,i2≤pna∧i= .int .i64 i2∧ai WQ wr []∧Hid (∀q,q<i2→inB p.args.2[q]! f.nv=true)) (fun i _=>pna -(intOf i).toNat)
                        case atStart=>exact⟨0,Nat.zero_le _,rfl,HK.o,fun j hj=>absurd hj (Nat.not_lt_zero _)⟩
                        case round=>
                         obtain⟨i2,hi2,rfl,hr,A4⟩:=hrel;clear l0 l1 l2 m0 m1 m2 m3 m4 m5 m6 q0 q1 q2 q3;clear Bl Bm Bq HK;have HK:=ag hr;clear hr;by_cases hlt2:i2<pna
                         ·as_aux_lemma=>
                           have hlt2z:(i2:Int)<(pna:Int):=(by omega);rcases HZ1.o with hz|⟨ra,ro,rfl,-,hra⟩
                           ·omega
                           have o0:=(TPW0.o.ak HK.o).cellOf (hra i2 hlt2);clear hra;have C4:=ag (fun w=>in_any p.args.2[i2]! f.nv w);have HNa:=ag (fun h:inB p.args.2[i2]! f.nv=false=>Ac (p:=(inB · f.nv)) (l:=p.args.2) (k:=i2) (by rw[HPA.o];exact hlt2) h);generalize hza:p.args.2[i2]! =za at*;have HZA:=ag hza;clear hza;generalize hIA:inB za f.nv=IA at*;have HIA:=ag hIA;clear hIA;cases IA with
                           |false=>
                            go_wp2_with (go_at_call 84;refine(C4.o _).mono ?_;rintro e w3 ⟨rfl,rfl⟩)
                            go_ret;exact⟨ay (by rw[←HRB.o];exact(xu hlt (Ba HY.o (block_no2 (by rw[HQN.o];exact hltj) (by rw[HP.o];exact(by rw[HBI2.o];exact HNa.o (by simp)))))).symm),(TW0.o.ak (Tw5.o.ak (TWQ.o.ak HK.o)))⟩
                           |true=>
                            go_wp2_with (go_at_call 84;refine(C4.o _).mono ?_;rintro e w3 ⟨rfl,rfl⟩)
                            go_roundw
                            case rel=>
                             refine⟨i2+1,by omega,by go_num,HK.o,(show Hid _ from fun q hq2=> ?_)⟩;by_cases e:q=i2
                             ·subst e;rw[HZA.o];exact HIA.o
                             ·exact A4.o q (by omega)
                            case measure=>simp[intOf];omega
                         ·have hlt2z:¬(i2:Int)<(pna:Int):=(by omega);obtain rfl:pna=i2:=by omega
                          go_wp2;go_roundw
                          case rel=>
                           refine⟨j+1,by omega,by go_num,(TWQ.o.ak HK.o),(show Hid _ from fun q hq2=> ?_)⟩;by_cases e:q=j
                           ·subst e;rw[HP.o,HBI2.o];exact nu (p:=(inB · f.nv)) (fun j hj=>A4.o j (by rw[←HPA.o];exact hj))
                           ·exact A3.o q (by omega)
                          case measure=>simp[intOf];omega
                  ·as_aux_lemma=>
                    have hltjz:¬(j:Int)<(qn:Int):=(by omega);obtain rfl:qn=j:=by omega
                    have P8:=A3;clear l0 l1 l2 m0 m1 m2 m3 m4 m5 m6;obtain⟨l0,l1,l2⟩:=Bl.o.c3;obtain⟨m0,m1,m2,m3,m4,m5,m6⟩:=Bm.o.c7;simp at l0 l1 l2 m0 m1 m2 m3 m4 m5 m6;have o3:=Bm.o.cell 3;have o4:=Bm.o.cell 4;have o5:=Bm.o.cell 5;have o6:=Bm.o.cell 6;simp at o3 o4 o5 o6;clear l0 l1 l2 m0 m1 m2 m3 m4 m5 m6;have bmx:=Blk.new we 36 #[.int .i64 yk,.int .i64 yv,.int .i64 y0,.int .i64 y1];have k3:ai we (we.alloc (.cells #[.int .i64 yk,.int .i64 yv,.int .i64 y0,.int .i64 y1] 36)) []:=(ai.refl we []).alloc _;replace Bl:=Bl.kb k3;replace Bm:=Bm.kb k3;replace HK:=HK.kt k3;clear k3;have Bt:=ag bmx;clear bmx;obtain⟨l0,l1,l2⟩:=Bl.o.c3;obtain⟨m0,m1,m2,m3,m4,m5,m6⟩:=Bm.o.c7;obtain⟨t0,t1,t2,t3⟩:=Bt.o.c4;simp at l0 l1 l2 m0 m1 m2 m3 m4 m5 m6 t0 t1 t2 t3;obtain⟨TB,hTB⟩:∃B,qi f yk yv y0 y1=B:=⟨_,rfl⟩;have HTB:=ag hTB;have HTBf:=ag (fun h:TB=false=>(xu hlt (Ba HY.o (block_no3 (by rw[Hyk.o,Hyv.o,Hy0.o,Hy1.o,HTB.o];exact h)))));have HTBt:=ag (fun h:TB=true=>(blk_yes (k:=k) HY.o (by rw[Hyn.o];exact HNB1.o) (fun j hj=>by rw[Hyn.o];exact P5.o j hj) (by rw[HSn.o];omega) (block_yes (fun j hj=>P6.o j (by rw[←HPN.o];exact hj)) (fun j hj=>P8.o j (by rw[←HQN.o];exact hj)) (by rw[Hyk.o,Hyv.o,Hy0.o,Hy1.o,HTB.o];exact h))));clear hTB P6 P8 P5 A3;have CV:=ag (fun w=>in_any yv f.nv w);have C0:=ag (fun w=>in_any y0 f.nb w);have C1:=ag (fun w=>in_any y1 f.nb w);obtain⟨IV,hIV⟩:∃B,inB yv f.nv=B:=⟨_,rfl⟩;obtain⟨I0,hI0⟩:∃B,inB y0 f.nb=B:=⟨_,rfl⟩;obtain⟨I1,hI1⟩:∃B,inB y1 f.nb=B:=⟨_,rfl⟩;rw[hIV]at CV;rw[hI0]at C0;rw[hI1]at C1;have HIV:=ag hIV;have HI0:=ag hI0;have HI1:=ag hI1;clear hIV hI0 hI1;by_cases k0:yk=0
                    ·subst k0;have HU:Hid (qi f 0 yv y0 y1=(I0&&(y1==0)&&(yv==0))):=(by show _=_;unfold qi;rw[if_pos rfl,HI0.o]);cases I0 with
                     |false=>
                      have hb:TB=false:=(by rw[←HTB.o];rw[HU.o];rfl);go_wp2_with (first |(go_at_call 84;have C0x:=C0;clear C0;refine(C0x.o _).mono ?_;rintro e w3 ⟨rfl,rfl⟩;clear C0x))
                      go_ret;exact⟨ay (by rw[←HRB.o];exact(HTBf.o hb).symm),(TW0.o.ak (Tw5.o.ak HK.o))⟩
                     |true=>
                      rcases yw y1 with rfl|g1
                      ·rcases yw yv with rfl|g2
                       ·have hb:=HTBt.o (show TB=true by rw[←HTB.o];rw[HU.o];rfl);have HB9:=ag hb;clear hb;go_wp2_with (first |(go_at_call 84;have C0x:=C0;clear C0;refine(C0x.o _).mono ?_;rintro e w3 ⟨rfl,rfl⟩;clear C0x))
                        go_roundw
                        case rel=>
                         refine⟨k+1,by omega,by go_num, ?_,(Tw5.o.ak HK.o),by rw[HSn.o];omega,(show Hid _ from fun q hq2=> ?_)⟩
                         ·rw[HSn.o];go_num
                         ·by_cases e:q=k
                          ·subst e;exact HB9.o
                          ·exact A.o q (by omega)
                        case measure=>simp[intOf];omega
                       ·have hb:TB=false:=(by rw[←HTB.o];rw[HU.o,g2];rfl);go_wp2_with (first |(go_at_call 84;have C0x:=C0;clear C0;refine(C0x.o _).mono ?_;rintro e w3 ⟨rfl,rfl⟩;clear C0x))
                        go_ret;exact⟨ay (by rw[←HRB.o];exact(HTBf.o hb).symm),(TW0.o.ak (Tw5.o.ak HK.o))⟩
                      ·have hb:TB=false:=(by rw[←HTB.o];rw[HU.o,g1];rfl);go_wp2_with (first |(go_at_call 84;have C0x:=C0;clear C0;refine(C0x.o _).mono ?_;rintro e w3 ⟨rfl,rfl⟩;clear C0x))
                       go_ret;exact⟨ay (by rw[←HRB.o];exact(HTBf.o hb).symm),(TW0.o.ak (Tw5.o.ak HK.o))⟩
                    have q0':(yk==0)=false:=(by simpa using k0);by_cases k1:yk=1
                    ·subst k1;have HU:Hid (qi f 1 yv y0 y1=(IV&&I0&&I1)):=(by show _=_;unfold qi;rw[if_neg (by decide),if_pos rfl,HIV.o,HI0.o,HI1.o]);cases IV with
                     |false=>
                      have hb:TB=false:=(by rw[←HTB.o];rw[HU.o];rfl);go_wp2_with (first |(go_at_call 84;have CVx:=CV;clear CV;refine(CVx.o _).mono ?_;rintro e w3 ⟨rfl,rfl⟩;clear CVx))
                      go_ret;exact⟨ay (by rw[←HRB.o];exact(HTBf.o hb).symm),(TW0.o.ak (Tw5.o.ak HK.o))⟩
                     |true=>
                      cases I0 with
                      |false=>
                       have hb:TB=false:=(by rw[←HTB.o];rw[HU.o];rfl);go_wp2_with (first |(go_at_call 84;have CVx:=CV;clear CV;refine(CVx.o _).mono ?_;rintro e w3 ⟨rfl,rfl⟩;clear CVx)|(go_at_call 84;have C0x:=C0;clear C0;refine(C0x.o _).mono ?_;rintro e w3 ⟨rfl,rfl⟩;clear C0x))
                       go_ret;exact⟨ay (by rw[←HRB.o];exact(HTBf.o hb).symm),(TW0.o.ak (Tw5.o.ak HK.o))⟩
                      |true=>
                       cases I1 with
                       |false=>
                        have hb:TB=false:=(by rw[←HTB.o];rw[HU.o];rfl);go_wp2_with (first |(go_at_call 84;have CVx:=CV;clear CV;refine(CVx.o _).mono ?_;rintro e w3 ⟨rfl,rfl⟩;clear CVx)|(go_at_call 84;have C0x:=C0;clear C0;refine(C0x.o _).mono ?_;rintro e w3 ⟨rfl,rfl⟩;clear C0x)|(go_at_call 84;have C1x:=C1;clear C1;refine(C1x.o _).mono ?_;rintro e w3 ⟨rfl,rfl⟩;clear C1x))
                        go_ret;exact⟨ay (by rw[←HRB.o];exact(HTBf.o hb).symm),(TW0.o.ak (Tw5.o.ak HK.o))⟩
                       |true=>
                        have hb:=HTBt.o (show TB=true by rw[←HTB.o];rw[HU.o];rfl);have HB9:=ag hb;clear hb;go_wp2_with (first |(go_at_call 84;have CVx:=CV;clear CV;refine(CVx.o _).mono ?_;rintro e w3 ⟨rfl,rfl⟩;clear CVx)|(go_at_call 84;have C0x:=C0;clear C0;refine(C0x.o _).mono ?_;rintro e w3 ⟨rfl,rfl⟩;clear C0x)|(go_at_call 84;have C1x:=C1;clear C1;refine(C1x.o _).mono ?_;rintro e w3 ⟨rfl,rfl⟩;clear C1x))
                        go_roundw
                        case rel=>
                         refine⟨k+1,by omega,by go_num, ?_,(Tw5.o.ak HK.o),by rw[HSn.o];omega,(show Hid _ from fun q hq2=> ?_)⟩
                         ·rw[HSn.o];go_num
                         ·by_cases e:q=k
                          ·subst e;exact HB9.o
                          ·exact A.o q (by omega)
                        case measure=>simp[intOf];omega
                    have q1':(yk==1)=false:=(by simpa using k1);by_cases k2:yk=2
                    ·subst k2;have HU:Hid (qi f 2 yv y0 y1=(IV&&((y0==0)&&(y1==0)))):=(by show _=_;unfold qi;rw[if_neg (by decide),if_neg (by decide),if_pos rfl,HIV.o]);have two:=fun w=>two_eql y0 y1 0 0 w;cases IV with
                     |false=>
                      have hb:TB=false:=(by rw[←HTB.o];rw[HU.o];rfl);go_wp2_with (first |(go_at_call 84;have CVx:=CV;clear CV;refine(CVx.o _).mono ?_;rintro e w3 ⟨rfl,rfl⟩;clear CVx))
                      go_ret;exact⟨ay (by rw[←HRB.o];exact(HTBf.o hb).symm),(TW0.o.ak (Tw5.o.ak HK.o))⟩
                     |true=>
                      cases hzz:((y0==0)&&(y1==0))with
                      |false=>
                       rw[hzz]at two;have hb:TB=false:=(by rw[←HTB.o];rw[HU.o,hzz];rfl);go_wp2_with (first |(go_at_call 84;have CVx:=CV;clear CV;refine(CVx.o _).mono ?_;rintro e w3 ⟨rfl,rfl⟩;clear CVx))
                       go_ret;exact⟨ay (by rw[←HRB.o];exact(HTBf.o hb).symm),(TW0.o.ak (Tw5.o.ak HK.o))⟩
                      |true=>
                       rw[hzz]at two;have hb:=HTBt.o (show TB=true by rw[←HTB.o];rw[HU.o,hzz];rfl);have HB9:=ag hb;clear hb;go_wp2_with (first |(go_at_call 84;have CVx:=CV;clear CV;refine(CVx.o _).mono ?_;rintro e w3 ⟨rfl,rfl⟩;clear CVx))
                       go_roundw
                       case rel=>
                        refine⟨k+1,by omega,by go_num, ?_,(Tw5.o.ak HK.o),by rw[HSn.o];omega,(show Hid _ from fun q hq2=> ?_)⟩
                        ·rw[HSn.o];go_num
                        ·by_cases e:q=k
                         ·subst e;exact HB9.o
                         ·exact A.o q (by omega)
                       case measure=>simp[intOf];omega
                    have q2':(yk==2)=false:=(by simpa using k2);have hb:TB=false:=(by rw[←HTB.o];unfold qi;rw[if_neg k0,if_neg k1,if_neg k2]);go_wp2;go_ret;exact⟨ay (by rw[←HRB.o];exact(HTBf.o hb).symm),(TW0.o.ak (Tw5.o.ak HK.o))⟩
       ·have hltz:¬(k:Int)<(f.nb:Int):=(by omega);obtain rfl:f.nb=k:=by omega
        go_wp2;go_ret;exact⟨ay (by rw[←HRB.o];exact(ref_yes HC.o P1.o P2.o A.o).symm),(TW0.o.ak HK.o)⟩
end Go.Proofs.YtjllbchfojonhaaGreatDoor
