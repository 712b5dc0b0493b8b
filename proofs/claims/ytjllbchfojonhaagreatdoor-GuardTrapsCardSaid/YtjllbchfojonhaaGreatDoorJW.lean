/- A joined program (the document's): contract, one way. -/
import Derived.Test.YtjllbchfojonhaaGreatDoorRH
import Derived.Test.YtjllbchfojonhaaGreatDoorGK
import Derived.Deep.CutBlock
import Derived.Deep.Cut
set_option linter.unusedVariables false
set_option linter.unusedSimpArgs false
set_option maxRecDepth 100000
set_option maxHeartbeats 200000000
namespace Go.Proofs.YtjllbchfojonhaaGreatDoor
open Go.RowKit
open Classical in
noncomputable def joinedB (f:ax):Bool:=decide (JoinF f f.nb 0)
open Classical in
theorem joined_yes {f:ax} (h:JoinF f f.nb 0):joinedB f=true:=decide_eq_true h
open Classical in
theorem joined_is {f:ax} (h:joinedB f=true):JoinF f f.nb 0:=of_decide_eq_true h
open Classical in
theorem joined_no {f:ax} {i:Nat} {p:jk} (hi:i<f.nb) (hp:p∈f.blocks.2[i]!.phis.2) (hq:¬JoinQ f i p):joinedB f=false:=decide_eq_false fun h=>hq (h.1 i hi p hp)
theorem joined41_any (f:ax) (w:World) (hf:cz w f) (hn:f.nb≤1000) (hr:∀i,i<f.nb→∀p∈f.blocks.2[i]!.phis.2,∀a∈p.froms.2,0≤a∧a<(f.nb:Int)) (hbd:∀b,b<f.nb→f.blocks.2[b]!.phis.2.length≤100000):
  Calls Tryz.prog 41 #[f.val] w fun e w'=>e= .returned (.bool (joinedB f))∧ai w w' []:=by
 have CL:=ag (fun(a:Nat) (b:Int) W (h:cz W f) ha=>leads_any f a b W h ha);have HRI:=ag hr;have HBD:=ag hbd;obtain⟨a0,c0,a1,c1,a2,c2,e0,e1,e2,hval,h1,HF,HC0,HC1,HC2,HNV,HNP,HNB⟩:=qj hf;rw[hval]at CL ⊢;clear hval h1 e0 e1 e2 hf HC0 HC1 hr hbd;obtain⟨HK,Bl⟩:=Cc w 26 #[.slice a0 f.nv c0,.slice a1 f.np c1,.slice a2 f.nb c2];obtain⟨l0,l1,l2⟩:=Bl.o.c3;simp at l0 l1 l2;go_enter Tryz.func41,Tryz.ntmps41;go_upto_region 1 with(fail)
 clear l0 l1 l2;generalize(w.alloc (.cells #[.slice a0 f.nv c0,.slice a1 f.np c1,.slice a2 f.nb c2] 26))=W0 at*;have Bl_W0:=Bl;have TW0:=HK;clear HK;have HK:=ag (ai.refl W0 []);obtain⟨l0,l1,l2⟩:=Bl.o.c3;simp at l0 l1 l2;go_wp2;go_loopw [15] (fun i' wx=>∃i:Nat,i≤f.nb∧i'= .int .i64 i∧Hid (JoinF f i 0)∧ai W0 wx []) (fun i' _=>f.nb -(intOf i').toNat)
 case atStart=>exact⟨0,Nat.zero_le _,rfl,ag (joinF_zero f),HK.o⟩
 case round=>
  obtain⟨i,hi,rfl,hj,hr⟩:=hrel;have HJ:=ag hj.out;clear hj;clear l0 l1 l2;clear Bl HK;have HK:=ag hr;have Bl:=ag (Bl_W0.o.keep hr (by simp));clear hr;obtain⟨l0,l1,l2⟩:=Bl.o.c3;simp at l0 l1 l2;by_cases hli:i<f.nb
  ·have hliz:(i:Int)<(f.nb:Int):=(by omega);obtain⟨yb,yo,e8,hyb,hbc⟩:=HC2.o i (by rw[HNB.o];exact hli);obtain rfl:=e8;have HBA:=ag (HF.o.block _ (az (l:=f.blocks.2) (k:=i) hli));obtain⟨pa,pc,pe,-,-,hpc⟩:=HBA.o.phis.open_;obtain⟨qa,qc,qe,-,-,-⟩:=HBA.o.insts.open_;have HPC:=ag hpc;have HPA:=ag HBA.o.phi;have HRIi:=ag (HRI.o i hli);have hbl:=HBD.o i hli;have JN3:=ag (fun p (hp:p∈f.blocks.2[i]!.phis.2) (hq:¬JoinQ f i p)=>joined_no hli hp hq);have JN1:=ag (fun m h hq=>joinF_snoc (f:=f) (i:=i) (m:=m) h hq);have JN2:=ag (fun h=>joinF_next (f:=f) (i:=i) h);have n0:=(TW0.o.ak HK.o).cellOf (hbc 0 _ rfl);have n1:=(TW0.o.ak HK.o).cellOf (hbc 1 _ rfl);have n2:=(TW0.o.ak HK.o).cellOf (hbc 2 _ rfl);have n3:=(TW0.o.ak HK.o).cellOf (hbc 3 _ rfl);have n4:=(TW0.o.ak HK.o).cellOf (hbc 4 _ rfl);have n5:=(TW0.o.ak HK.o).cellOf (hbc 5 _ rfl);have n6:=(TW0.o.ak HK.o).cellOf (hbc 6 _ rfl);simp only[Nat.add_zero]at n0;rw[pe]at n1;rw[qe]at n2;clear hbc HBA pe qe hpc;generalize f.blocks.2[i]!.insts.2.length=il at*;obtain⟨ps,hps⟩:∃ps,f.blocks.2[i]!.phis.2=ps:=⟨_,rfl⟩;rw[hps]at n1 HPC HPA HRIi hbl JN1 JN2 JN3;clear hps;generalize hyn:f.blocks.2[i]!.name=yn at*;generalize f.blocks.2[i]!.kind=yk at*;generalize f.blocks.2[i]!.var=yv at*;generalize f.blocks.2[i]!.to0=y0 at*;generalize f.blocks.2[i]!.to1=y1 at*;clear hyn;obtain⟨pn,hpn⟩:∃pn,ps.length=pn:=⟨_,rfl⟩;rw[hpn]at n1 HPC hbl JN2;have HPN:=ag hpn;clear hpn;go_upto_region 4 with(fail)
   clear n0 n1 n2 n3 n4 n5 n6;clear l0 l1 l2;have bmx:=Blk.new wr 38 #[.string yn,.slice pa pn pc,.slice qa il qc,.int .i64 yk,.int .i64 yv,.int .i64 y0,.int .i64 y1];have k3:ai wr (wr.alloc (.cells #[.string yn,.slice pa pn pc,.slice qa il qc,.int .i64 yk,.int .i64 yv,.int .i64 y0,.int .i64 y1] 38)) []:=(ai.refl wr []).alloc _;replace Bl:=Bl.kb k3;replace HK:=HK.kt k3;have By:=ag bmx;clear k3 bmx;obtain⟨l0,l1,l2⟩:=Bl.o.c3;obtain⟨y0,y1,y2,y3,y4,y5,y6⟩:=By.o.c7;simp at l0 l1 l2 y0 y1 y2 y3 y4 y5 y6;clear l0 l1 l2 y0 y1 y2 y3 y4 y5 y6;generalize(wr.alloc (.cells #[.string yn,.slice pa pn pc,.slice qa il qc,.int .i64 yk,.int .i64 yv,.int .i64 y0,.int .i64 y1] 38))=W1 at*;have Bl_W1:=Bl;have By_W1:=By;have TW1:=HK;clear HK;have HK:=ag (ai.refl W1 []);obtain⟨l0,l1,l2⟩:=Bl.o.c3;obtain⟨y0,y1,y2,y3,y4,y5,y6⟩:=By.o.c7;simp at l0 l1 l2 y0 y1 y2 y3 y4 y5 y6;generalize wr.heap.size=by0 at*;clear l0 l1 l2 y0 y1 y2 y3 y4 y5 y6;obtain⟨l0,l1,l2⟩:=Bl.o.c3;obtain⟨y0,y1,y2,y3,y4,y5,y6⟩:=By.o.c7;simp at l0 l1 l2 y0 y1 y2 y3 y4 y5 y6;go_wp2;go_loopw [23] (fun i' wx=>∃m:Nat,m≤pn∧i'= .int .i64 m∧Hid (JoinF f i m)∧ai W1 wx []) (fun i' _=>pn -(intOf i').toNat)
   case atStart=>exact⟨0,Nat.zero_le _,rfl,ag HJ.o,HK.o⟩
   case round=>
    obtain⟨m,hm,rfl,hj,hr⟩:=hrel;clear HJ;have HJ:=ag hj.out;clear hj;clear l0 l1 l2 y0 y1 y2 y3 y4 y5 y6;clear Bl By HK;have HK:=ag hr;have Bl:=ag (Bl_W1.o.keep hr (by simp));have By:=ag (By_W1.o.keep hr (by simp));clear hr;obtain⟨l0,l1,l2⟩:=Bl.o.c3;obtain⟨y0,y1,y2,y3,y4,y5,y6⟩:=By.o.c7;simp at l0 l1 l2 y0 y1 y2 y3 y4 y5 y6;by_cases hlm:m<pn
    ·have hlmz:(m:Int)<(pn:Int):=(by omega);have hmp:m<ps.length:=(by rw[HPN.o];exact hlm);obtain⟨pb,po,e8,-,hcp⟩:=HPC.o m (by first |exact hmp|exact hlm);obtain rfl:=e8;have hpp:=HPA.o _ (az hmp);have HRP:=ag (HRIi.o _ (az hmp));obtain⟨aa,ac,ea,-,-,-⟩:=hpp.1.open_;obtain⟨fa,fc,ef,hfl,hfm,hcf⟩:=hpp.2.open_;have n0:=(TW0.o.ak (TW1.o.ak HK.o)).cellOf (hcp 0 _ rfl);have n1:=(TW0.o.ak (TW1.o.ak HK.o)).cellOf (hcp 1 _ rfl);have n2:=(TW0.o.ak (TW1.o.ak HK.o)).cellOf (hcp 2 _ rfl);simp only[Nat.add_zero]at n0;rw[ea]at n1;rw[ef]at n2;have HPP:=ag hpp.2;have HCF:=ag hcf;have hfew:ps[m]!.froms.2.length≤9223372036854775807:=(by unfold maxLen at hfm;omega);have JNO:=ag (fun hq=>JN3.o _ (az hmp) hq);have JS:=ag (fun hq=>JN1.o m HJ.o hq);clear hcp hpp ea hfl hfm hcf;generalize hpe:ps[m]! =p at*;clear hpe;generalize p.args.2.length=pal at*;obtain⟨lf,hlf⟩:∃lf,p.froms.2.length=lf:=⟨_,rfl⟩;rw[hlf]at n2 hfew HCF ef;have HLF:=ag hlf;have HEF:=ag ef;clear hlf ef;go_upto_region 7 with(fail)
     clear n0 n1 n2;clear l0 l1 l2 y0 y1 y2 y3 y4 y5 y6;have bmx:=Blk.new wr 95 #[.int .i64 p.dst,.slice aa pal ac,.slice fa lf fc];have k3:ai wr (wr.alloc (.cells #[.int .i64 p.dst,.slice aa pal ac,.slice fa lf fc] 95)) []:=(ai.refl wr []).alloc _;replace Bl:=Bl.kb k3;replace By:=By.kb k3;replace HK:=HK.kt k3;have Bp:=ag bmx;clear k3 bmx;obtain⟨l0,l1,l2⟩:=Bl.o.c3;obtain⟨y0,y1,y2,y3,y4,y5,y6⟩:=By.o.c7;obtain⟨p0,p1,p2⟩:=Bp.o.c3;simp at l0 l1 l2 y0 y1 y2 y3 y4 y5 y6 p0 p1 p2;clear l0 l1 l2 y0 y1 y2 y3 y4 y5 y6 p0 p1 p2;generalize(wr.alloc (.cells #[.int .i64 p.dst,.slice aa pal ac,.slice fa lf fc] 95))=W2 at*;have Bl_W2:=Bl;have By_W2:=By;have Bp_W2:=Bp;have TW2:=HK;clear HK;have HK:=ag (ai.refl W2 []);obtain⟨l0,l1,l2⟩:=Bl.o.c3;obtain⟨y0,y1,y2,y3,y4,y5,y6⟩:=By.o.c7;obtain⟨p0,p1,p2⟩:=Bp.o.c3;simp at l0 l1 l2 y0 y1 y2 y3 y4 y5 y6 p0 p1 p2;generalize wr.heap.size=bp0 at*;clear l0 l1 l2 y0 y1 y2 y3 y4 y5 y6 p0 p1 p2;obtain⟨l0,l1,l2⟩:=Bl.o.c3;obtain⟨y0,y1,y2,y3,y4,y5,y6⟩:=By.o.c7;obtain⟨p0,p1,p2⟩:=Bp.o.c3;simp at l0 l1 l2 y0 y1 y2 y3 y4 y5 y6 p0 p1 p2;go_wp2;go_loopw [7,30] (fun a' i' wx=>∃q:Nat,q≤f.nb∧i'= .int .i64 q∧a'= .int .i64 (cntL f i q:Nat)∧ai W2 wx []) (fun _ i' _=>f.nb -(intOf i').toNat)
     case atStart=>exact⟨0,Nat.zero_le _,rfl,rfl,HK.o⟩
     case round=>
      obtain⟨q,hq,rfl,rfl,hr⟩:=hrel;clear l0 l1 l2 y0 y1 y2 y3 y4 y5 y6 p0 p1 p2;clear Bl By Bp HK;have HK:=ag hr;have Bl:=ag (Bl_W2.o.keep hr (by simp));have By:=ag (By_W2.o.keep hr (by simp));have Bp:=ag (Bp_W2.o.keep hr (by simp));clear hr;obtain⟨l0,l1,l2⟩:=Bl.o.c3;obtain⟨y0,y1,y2,y3,y4,y5,y6⟩:=By.o.c7;obtain⟨p0,p1,p2⟩:=Bp.o.c3;simp at l0 l1 l2 y0 y1 y2 y3 y4 y5 y6 p0 p1 p2;by_cases hlq:q<f.nb
      ·have hlqz:(q:Int)<(f.nb:Int):=(by omega);have CLq:=ag (fun W h=>CL.o q (i:Nat) W h hlq);have HY:=ag (fun h=>cntL_yes (f:=f) (i:=i) (a:=q) h);have HN:=ag (fun h=>cntL_no (f:=f) (i:=i) (a:=q) h);have hcl:=cntL_le f i q;generalize cntL f i q=cq at*;generalize hlb:kw f.blocks.2[q]! (i:Int)=lb at*;clear hlb;cases lb
       ·go_wp2_with (first |(go_at_call 39;refine(CLq.o _ (HF.o.keep (TW0.o.ak (TW1.o.ak (TW2.o.ak HK.o))))).mono ?_;rintro e w3 ⟨rfl,k3⟩;clear l0 l1 l2 y0 y1 y2 y3 y4 y5 y6 p0 p1 p2;replace Bl:=Bl.kb k3;replace By:=By.kb k3;replace Bp:=Bp.kb k3;replace HK:=HK.kt k3;obtain⟨l0,l1,l2⟩:=Bl.o.c3;obtain⟨y0,y1,y2,y3,y4,y5,y6⟩:=By.o.c7;obtain⟨p0,p1,p2⟩:=Bp.o.c3;simp at l0 l1 l2 y0 y1 y2 y3 y4 y5 y6 p0 p1 p2;clear k3))
        go_roundw
        case rel=>exact⟨q+1,by omega,by go_num,by rw[HN.o (by first |rfl|trivial)],HK.o⟩
        case measure=>simp[intOf];omega
       ·go_wp2_with (first |(go_at_call 39;refine(CLq.o _ (HF.o.keep (TW0.o.ak (TW1.o.ak (TW2.o.ak HK.o))))).mono ?_;rintro e w3 ⟨rfl,k3⟩;clear l0 l1 l2 y0 y1 y2 y3 y4 y5 y6 p0 p1 p2;replace Bl:=Bl.kb k3;replace By:=By.kb k3;replace Bp:=Bp.kb k3;replace HK:=HK.kt k3;obtain⟨l0,l1,l2⟩:=Bl.o.c3;obtain⟨y0,y1,y2,y3,y4,y5,y6⟩:=By.o.c7;obtain⟨p0,p1,p2⟩:=Bp.o.c3;simp at l0 l1 l2 y0 y1 y2 y3 y4 y5 y6 p0 p1 p2;clear k3))
        go_roundw
        case rel=>exact⟨q+1,by omega,by go_num,by rw[HY.o (by first |rfl|trivial)];go_num,HK.o⟩
        case measure=>simp[intOf];omega
      ·have hlqz:¬(q:Int)<(f.nb:Int):=(by omega);obtain rfl:q=f.nb:=by omega
       have HCN:=ag (show ∀z,cntL f i f.nb=z→cntL f i f.nb=z from fun _ h=>h);have hcl:=cntL_le f i f.nb;generalize hcq:cntL f i f.nb=cq at*;have HCQ:=ag hcq;clear hcq HCN;by_cases hne:cq=lf
       ·subst hne;have hnez:((cq:Int)==(cq:Int))=true:=beq_self_eq_true _;go_wp2;go_loopw [48] (fun i' wx=>∃v:Nat,v≤cq∧i'= .int .i64 v∧Hid (∀v',v'<v→JoinK f i p v')∧ai W2 wx []) (fun i' _=>cq -(intOf i').toNat)
        case atStart=>exact⟨0,Nat.zero_le _,rfl,ag (fun v' h=>absurd h (Nat.not_lt_zero _)),HK.o⟩
        case round=>
         obtain⟨v,hv,rfl,hk4,hr⟩:=hrel;have HK4:=ag hk4.out;clear hk4;clear l0 l1 l2 y0 y1 y2 y3 y4 y5 y6 p0 p1 p2;clear Bl By Bp HK;have HK:=ag hr;have Bl:=ag (Bl_W2.o.keep hr (by simp));have By:=ag (By_W2.o.keep hr (by simp));have Bp:=ag (Bp_W2.o.keep hr (by simp));clear hr;obtain⟨l0,l1,l2⟩:=Bl.o.c3;obtain⟨y0,y1,y2,y3,y4,y5,y6⟩:=By.o.c7;obtain⟨p0,p1,p2⟩:=Bp.o.c3;simp at l0 l1 l2 y0 y1 y2 y3 y4 y5 y6 p0 p1 p2;by_cases hlv:v<cq
         ·have hlvz:(v:Int)<(cq:Int):=(by omega);obtain⟨fb,fo,e8,hfb,hcf⟩:=(HCF.o.resolve_left (by omega));obtain rfl:=e8;have m0:=(TW0.o.ak (TW1.o.ak (TW2.o.ak HK.o))).cellOf (hcf v hlv);have HMM:=ag (nth_mem (l:=p.froms.2) (i:=v) (by rw[HLF.o];exact hlv));have hrg:=HRP.o _ HMM.o;have HCFF:=ag hcf;clear hcf HCF HMM;obtain⟨a,ha⟩:∃a:Nat,p.froms.2[v]! =(a:Int):=⟨(p.froms.2[v]!).toNat,by omega⟩;have HA:=ag ha;rw[ha]at m0 hrg;clear ha;have han:a<f.nb:=(by omega);clear hrg;have CLa:=ag (fun W h=>CL.o a (i:Nat) W h han);generalize hlb:kw f.blocks.2[a]! (i:Int)=lb at*;have HLB:=ag hlb;clear hlb;cases lb
          ·go_wp2_with (first |(go_at_call 39;refine(CLa.o _ (HF.o.keep (TW0.o.ak (TW1.o.ak (TW2.o.ak HK.o))))).mono ?_;rintro e w3 ⟨rfl,k3⟩;replace m0:=k3.cellOf m0;clear l0 l1 l2 y0 y1 y2 y3 y4 y5 y6 p0 p1 p2;replace Bl:=Bl.kb k3;replace By:=By.kb k3;replace Bp:=Bp.kb k3;replace HK:=HK.kt k3;obtain⟨l0,l1,l2⟩:=Bl.o.c3;obtain⟨y0,y1,y2,y3,y4,y5,y6⟩:=By.o.c7;obtain⟨p0,p1,p2⟩:=Bp.o.c3;simp at l0 l1 l2 y0 y1 y2 y3 y4 y5 y6 p0 p1 p2;clear k3))
           go_ret;exact⟨ay (JNO.o (fun h=>by have h9:=(h.all v (by rw[HLF.o];exact hlv)).1;rw[HA.o]at h9;exact absurd (h9.symm.trans HLB.o) (by simp))).symm,(TW0.o.ak (TW1.o.ak (TW2.o.ak HK.o)))⟩
          ·go_upto_region 21 with(first |(go_at_call 39;refine(CLa.o _ (HF.o.keep (TW0.o.ak (TW1.o.ak (TW2.o.ak HK.o))))).mono ?_;rintro e w3 ⟨rfl,k3⟩;replace m0:=k3.cellOf m0;clear l0 l1 l2 y0 y1 y2 y3 y4 y5 y6 p0 p1 p2;replace Bl:=Bl.kb k3;replace By:=By.kb k3;replace Bp:=Bp.kb k3;replace HK:=HK.kt k3;obtain⟨l0,l1,l2⟩:=Bl.o.c3;obtain⟨y0,y1,y2,y3,y4,y5,y6⟩:=By.o.c7;obtain⟨p0,p1,p2⟩:=Bp.o.c3;simp at l0 l1 l2 y0 y1 y2 y3 y4 y5 y6 p0 p1 p2;clear k3))
           go_wp2;clear m0;go_loopw [59] (fun i' wx=>∃u:Nat,u≤v∧i'= .int .i64 u∧Hid (∀j,j<u→p.froms.2[j]! ≠(a:Int))∧ai W2 wx []) (fun i' _=>v -(intOf i').toNat)
           case atStart=>exact⟨0,Nat.zero_le _,rfl,ag (fun j h=>absurd h (Nat.not_lt_zero _)),HK.o⟩
           case round=>
            obtain⟨u,hu,rfl,hnj,hr⟩:=hrel;have HNJ:=ag hnj.out;clear hnj;clear l0 l1 l2 y0 y1 y2 y3 y4 y5 y6 p0 p1 p2;clear Bl By Bp HK;have HK:=ag hr;have Bl:=ag (Bl_W2.o.keep hr (by simp));have By:=ag (By_W2.o.keep hr (by simp));have Bp:=ag (Bp_W2.o.keep hr (by simp));clear hr;obtain⟨l0,l1,l2⟩:=Bl.o.c3;obtain⟨y0,y1,y2,y3,y4,y5,y6⟩:=By.o.c7;obtain⟨p0,p1,p2⟩:=Bp.o.c3;simp at l0 l1 l2 y0 y1 y2 y3 y4 y5 y6 p0 p1 p2;by_cases hlu:u<v
            ·have hluz:(u:Int)<(v:Int):=(by omega);have hlul:(u:Int)<(cq:Int):=(by omega);have m1:=(TW0.o.ak (TW1.o.ak (TW2.o.ak HK.o))).cellOf (HCFF.o u (by omega));by_cases he:p.froms.2[u]! =(a:Int)
             ·rw[he]at m1;have HEE:=ag he;have hez:((a:Int)==(a:Int))=true:=beq_self_eq_true _;go_wp2;go_ret;exact⟨ay (JNO.o (fun h=>(h.all v (by rw[HLF.o];exact hlv)).2 u hlu (by rw[HA.o];exact HEE.o))).symm,(TW0.o.ak (TW1.o.ak (TW2.o.ak HK.o)))⟩
             ·have hez:(p.froms.2[u]! ==(a:Int))=false:=beq_eq_false_iff_ne.2 he;have HNE:=ag he;clear he;obtain⟨fu,hfu⟩:∃fu,p.froms.2[u]! =fu:=⟨_,rfl⟩;rw[hfu]at m1 hez;clear hfu;go_wp2;go_roundw
              case rel=>exact⟨u+1,by omega,by go_num,ag (fun j hj=>by rcases Nat.lt_succ_iff_lt_or_eq.1 hj with h1|h1;exact HNJ.o j h1;(rw[h1];exact HNE.o)),HK.o⟩
              case measure=>simp[intOf];omega
            ·have hluz:¬(u:Int)<(v:Int):=(by omega);obtain rfl:u=v:=by omega
             go_wp2;go_roundw
             case rel=>exact⟨u+1,by omega,by go_num,ag (fun v' hv'=>by rcases Nat.lt_succ_iff_lt_or_eq.1 hv' with h1|h1;exact HK4.o v' h1;(rw[h1];exact⟨by rw[HA.o];exact HLB.o,fun j hj=>by rw[HA.o];exact HNJ.o j hj⟩)),HK.o⟩
             case measure=>simp[intOf];omega
         ·have hlvz:¬(v:Int)<(cq:Int):=(by omega);obtain rfl:v=cq:=by omega
          go_wp2;go_roundw
          case rel=>exact⟨m+1,by omega,by go_num,ag (JS.o ⟨by rw[HCQ.o,HLF.o],fun z hz=>HK4.o z (by rw[HLF.o]at hz;exact hz)⟩),(TW2.o.ak HK.o)⟩
          case measure=>simp[intOf];omega
       ·have hnez:((cq:Int)==(lf:Int))=false:=beq_eq_false_iff_ne.2 (show(cq:Int)≠(lf:Int) by omega);go_wp2;go_ret;exact⟨ay (JNO.o (fun h=>hne (by have h9:=h.cnt;rw[HCQ.o,HLF.o]at h9;exact h9))).symm,(TW0.o.ak (TW1.o.ak (TW2.o.ak HK.o)))⟩
    ·have hlmz:¬(m:Int)<(pn:Int):=(by omega);obtain rfl:m=pn:=by omega
     go_wp2;go_roundw
     case rel=>exact⟨i+1,by omega,by go_num,ag (JN2.o HJ.o),(TW1.o.ak HK.o)⟩
     case measure=>simp[intOf];omega
  ·have hliz:¬(i:Int)<(f.nb:Int):=(by omega);obtain rfl:i=f.nb:=by omega
   go_wp2;go_ret;exact⟨ay (joined_yes HJ.o).symm,(TW0.o.ak HK.o)⟩
end Go.Proofs.YtjllbchfojonhaaGreatDoor
