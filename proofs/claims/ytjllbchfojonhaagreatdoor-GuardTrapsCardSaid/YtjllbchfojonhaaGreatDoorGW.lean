/- All checks of a program, and which are good where (guard.look); the walk. -/
import Derived.Test.YtjllbchfojonhaaGreatDoorGU
import Derived.Deep.CutBlock
import Derived.Deep.Cut
import Derived.Deep.CutRange
import Derived.Deep.LoopGhost
set_option linter.unusedVariables false
set_option linter.unusedSimpArgs false
set_option maxRecDepth 100000
set_option maxHeartbeats 200000000
namespace Go.Proofs.YtjllbchfojonhaaGreatDoor
open Go.RowKit Go.Shelf Go.Lib
theorem info39c:(Tryz.prog.info? 39).map (fun i=>(i.zero,i.size,i.bytes))=some (some (.slice none 0 0),1,24):=by kernel_rfl
theorem look_any (f:ax) (w:World) (ht:Tabs w) (hf:cz w f) (hfew:yu f) (hT:jf f=0) (hN:(ze f).length≤100000) (hbd:∀b,b<f.nb→f.blocks.2[b]!.phis.2.length≤100000∧f.blocks.2[b]!.insts.2.length≤100000):
  Calls Tryz.prog 34 #[f.val] w fun e w'=>(∃L,e= .returned (.pointer (some ⟨L,0,none⟩))∧LookRet f w' L)∧ai w w' []:=by
 have hE:=ends_ok hT hfew;have hp:=hE.pos;have hn:=hE.nb;have HE:=ag hE;have HNC:=ag (show(dx f).length≤100000 from Nat.le_trans (collect_len _) hN);have CC:=ag (fun W (h:cz W f)=>collect_any f W h hN hn);have CRe:=ag (fun W h1 (h2:cz W f)=>reachT_any f W h1 h2 hfew hT);have CPr:=ag (fun W h1 (h2:cz W f)=>predsT_any f W h1 h2 hfew hT);have COr:=ag (fun W h1 (h2:cz W f)=>orderT_any f W h1 h2 hfew hT);have HTB:=ag ht;have HBD:=ag hbd;have HLA:=ag (fun W (h:cz W f) (d:dn) (hd:d∈dx f)=>coll_args h (k:=f.nb) (j:=0) (Nat.le_refl _) (fun _=>rfl) (by rw[preI_end];exact hd));have HFV:=ag (show#[f.vars.1,f.params.1,f.blocks.1]=#[f.vars.1,f.params.1,f.blocks.1]from rfl);obtain⟨a0,c0,a1,c1,a2,c2,e0,e1,e2,hval,h1,HF,HC0,HC1,HC2,HNV,HNP,HNB⟩:=qj hf;have HFV:=ag (show f.vars.1= .slice a0 f.nv c0∧f.params.1= .slice a1 f.np c1∧f.blocks.1= .slice a2 f.nb c2 from⟨e0,e1,e2⟩);rw[hval]at CC CRe CPr COr ⊢;clear hval h1 e0 e1 e2 hf HC0 HC1 HC2 ht hT hN hbd hE;obtain⟨cs,hcs⟩:∃cs,dx f=cs:=⟨_,rfl⟩;have HCS:=ag hcs;obtain⟨nc,hncs⟩:∃nc,cs.length=nc:=⟨_,rfl⟩;have HN:=ag hncs;have hnc:nc≤100000:=(by have h9:=HNC.o;rw[hcs,hncs]at h9;exact h9);rw[hcs]at CC;simp only[hcs]at HLA;rw[hncs]at CC;clear hcs hncs HNC;obtain⟨HK,Bl⟩:=Cc w 26 #[.slice a0 f.nv c0,.slice a1 f.np c1,.slice a2 f.nb c2];obtain⟨l0,l1,l2⟩:=Bl.o.c3;simp at l0 l1 l2;go_enter Tryz.func34,Tryz.ntmps34;go_upto_region 1 with(fail)
 have hszw:w.heap.size≤(w.alloc (.cells #[.slice a0 f.nv c0,.slice a1 f.np c1,.slice a2 f.nb c2] 26)).heap.size:=(by show _≤(Array.push _ _).size;simp[Array.size_push]);clear l0 l1 l2;generalize(w.alloc (.cells #[.slice a0 f.nv c0,.slice a1 f.np c1,.slice a2 f.nb c2] 26))=W0 at*;have Bl_W0:=Bl;have TW0:=HK;clear HK;have HK:=ag (ai.refl W0 []);obtain⟨l0,l1,l2⟩:=Bl.o.c3;simp at l0 l1 l2;have HSW:=ag hszw;clear hszw;go_cut [3]from 10 to 16 (fun t3 wx=>∃L lv tv th,t3= .pointer (some ⟨L,0,none⟩)∧Hid (Blk wx L 89 #[.slice a0 f.nv c0,.slice a1 f.np c1,.slice a2 f.nb c2,lv,tv,.slice none 0 0])∧Hid (wx.ownsRow W0.heap.size 49 2 lv nc (yg cs))∧Hid (wx.ownsRow W0.heap.size 4 1 tv f.nb (wm th))∧Hid (Bb f th)∧W0.heap.size≤L∧ai W0 wx [])
 case first=>
  refine wp_region_held_drew (S:=(fun w'=>w'.cell? ⟨w.heap.size,0,none⟩=some (.slice a0 f.nv c0)∧w'.cell? ⟨w.heap.size,1,none⟩=some (.slice a1 f.np c1)∧w'.cell? ⟨w.heap.size,2,none⟩=some (.slice a2 f.nb c2))) (by kernel_rfl) ?ghS (fun ah=> ?_)
  case ghS=>exact⟨l0,l1,l2⟩
  clear l0 l1 l2;replace Bl:=ag (Bl.o.keep ((ai.refl _ []).drew) (by simp));replace HK:=ag (HK.o.drew);generalize World.drew _=X0 at*;have l0:=Bl.o.cell 0;have l1:=Bl.o.cell 1;have l2:=Bl.o.cell 2;simp at l0 l1 l2;refine tp 0 10 rfl ah ?_;refine tp 1 11 rfl ah ?_;refine tp 3 13 rfl ah ?_;refine t2 [2] ?_;refine AllReadyH.cons rfl (fun K hK=> ?_) ?_
  ·clear ah;go_simp
   (with_reducible refine(CC.o _ (HF.o.keep (TW0.o.ak HK.o))).mono ?_)
   rintro e Y1 ⟨⟨cv,rfl,hcv⟩,k3⟩;have HSX:=ag HK.o.size;obtain⟨ca,cc,rfl,-,-⟩:=cr hcv;have OC:=ag (dm hcv HSX.o);clear hcv;show K _ _;clear l0 l1 l2;replace Bl:=Bl.kb k3;replace HK:=HK.kt k3;try replace OT:=ag (au OT.o k3 (by simp))
   clear k3 HSX;have l0:=Bl.o.cell 0;have l1:=Bl.o.cell 1;have l2:=Bl.o.cell 2;simp at l0 l1 l2;refine hK.out _ _ (by exact⟨l0,l1,l2⟩) fun ah=> ?_;clear hK K;try simp only[Act.put,sA,sB,sC]
   refine t2 [4] ?_;refine AllReadyH.cons rfl (fun K hK=> ?_) ?_
   ·clear ah;go_simp
    (with_reducible refine(CRe.o _ (HTB.o.keep (TW0.o.ak HK.o)) (HF.o.keep (TW0.o.ak HK.o))).mono ?_)
    rintro e Y2 ⟨⟨tv,rfl,th,htv,hth⟩,k3⟩;have HSX:=ag HK.o.size;obtain⟨ta,tc,rfl,-,-⟩:=cr htv;have OT:=ag (dm htv HSX.o);have HTH:=ag hth;clear htv hth;show K _ _;clear l0 l1 l2;replace Bl:=Bl.kb k3;replace HK:=HK.kt k3;try replace OC:=ag (au OC.o k3 (by simp))
    clear k3 HSX;have l0:=Bl.o.cell 0;have l1:=Bl.o.cell 1;have l2:=Bl.o.cell 2;simp at l0 l1 l2;refine hK.out _ _ (by exact⟨l0,l1,l2⟩) fun ah=> ?_;clear hK K;try simp only[Act.put,sA,sB,sC]
    refine tp 5 15 rfl ah ?_;refine t2 [6] ?_;refine AllReadyH.cons rfl (fun K hK=> ?_) ?_
    ·clear ah;go_simp;have k3:ai Y2 (Y2.alloc (.cells #[.slice a0 f.nv c0,.slice a1 f.np c1,.slice a2 f.nb c2,.slice ca nc cc,.slice ta f.nb tc,.slice none 0 0] 89)) []:=(ai.refl _ []).alloc _;have BL:=ag (Blk.new Y2 89 #[.slice a0 f.nv c0,.slice a1 f.np c1,.slice a2 f.nb c2,.slice ca nc cc,.slice ta f.nb tc,.slice none 0 0]);have HGE:=ag HK.o.size;clear l0 l1 l2;replace Bl:=Bl.kb k3;replace HK:=HK.kt k3;replace OC:=ag (au OC.o k3 (by simp));replace OT:=ag (au OT.o k3 (by simp));clear k3;generalize Y2.alloc (.cells #[.slice a0 f.nv c0,.slice a1 f.np c1,.slice a2 f.nb c2,.slice ca nc cc,.slice ta f.nb tc,.slice none 0 0] 89)=Y3 at*;generalize Y2.heap.size=L at*;have l0:=Bl.o.cell 0;have l1:=Bl.o.cell 1;have l2:=Bl.o.cell 2;simp at l0 l1 l2;refine hK.out _ _ (by exact⟨l0,l1,l2⟩) fun ah=> ?_;clear hK K;try simp only[Act.put,sA,sB,sC]
     refine tp 7 3 rfl ah ?_;refine wpAnyH_done (by kernel_rfl) ?_ _;clear ah;go_wp2;go_meet;exact⟨L,_,_,th,rfl,BL.o,OC.o,OT.o,HTH.o,HGE.o,HK.o⟩
    exact AllReadyH.nil
   exact AllReadyH.nil
  exact AllReadyH.nil
 case rest=>
  obtain⟨L,lv,tv,th,rfl,hBL,hOC,hOT,hTH,hGE,hr⟩:=hcut;have OC:=ag hOC.out;have OT:=ag hOT.out;have HTH:=ag hTH.out;have BL:=ag hBL.out;have HGE:=ag hGE;clear hBL hOC hOT hTH hGE;clear l0 l1 l2;replace Bl:=ag (Bl_W0.o.keep hr (by simp));replace HK:=ag hr;clear hr;have l0:=Bl.o.cell 0;have l1:=Bl.o.cell 1;have l2:=Bl.o.cell 2;simp at l0 l1 l2;go_upto_region 2 with(fail)
  go_cut [4,5]from 17 to 20 (fun t4 t5 wx=>∃gp vp P ord,t4= .slice (some ⟨gp,0,none⟩) f.nb f.nb∧Hid (uk wx W0.heap.size gp f.nb vp P)∧Hid (Df f P)∧Hid (wx.ownsRow W0.heap.size 3 1 t5 ord.length (Cw ord))∧Hid (OrdOK f ord)∧Hid (Blk wx L 89 #[.slice a0 f.nv c0,.slice a1 f.np c1,.slice a2 f.nb c2,lv,tv,.slice none 0 0])∧Hid (wx.ownsRow W0.heap.size 49 2 lv nc (yg cs))∧Hid (wx.ownsRow W0.heap.size 4 1 tv f.nb (wm th))∧ai W0 wx [])
  case first=>
   refine wp_region_held_drew (S:=(fun w'=>w'.cell? ⟨w.heap.size,0,none⟩=some (.slice a0 f.nv c0)∧w'.cell? ⟨w.heap.size,1,none⟩=some (.slice a1 f.np c1)∧w'.cell? ⟨w.heap.size,2,none⟩=some (.slice a2 f.nb c2))) (by kernel_rfl) ?ghS (fun ah=> ?_)
   case ghS=>exact⟨l0,l1,l2⟩
   clear l0 l1 l2;replace Bl:=ag (Bl.o.keep ((ai.refl _ []).drew) (by simp));replace HK:=ag (HK.o.drew);replace BL:=ag (BL.o.keep ((ai.refl _ []).drew) (by simp));replace OC:=ag (au OC.o ((ai.refl _ []).drew) (by simp));replace OT:=ag (au OT.o ((ai.refl _ []).drew) (by simp));generalize World.drew _=X0 at*;have l0:=Bl.o.cell 0;have l1:=Bl.o.cell 1;have l2:=Bl.o.cell 2;simp at l0 l1 l2;refine tp 0 17 rfl ah ?_;refine tp 2 19 rfl ah ?_;refine t2 [1] ?_;refine AllReadyH.cons rfl (fun K hK=> ?_) ?_
   ·clear ah;go_simp
    (with_reducible refine(CPr.o _ (HTB.o.keep (TW0.o.ak HK.o)) (HF.o.keep (TW0.o.ak HK.o))).mono ?_)
    rintro e Y1 ⟨⟨gp,rfl,vp,P,hP,hPO⟩,k3⟩;have HSX:=ag HK.o.size;have HP:=ag (show uk _ W0.heap.size gp f.nb vp P from⟨hP.lv,hP.lp,hP.g,fun b hb=>dm (hP.r b hb) HSX.o,hP.ap⟩);have HPO:=ag hPO;clear hP hPO;show K _ _;clear l0 l1 l2;replace Bl:=Bl.kb k3;replace HK:=HK.kt k3;replace BL:=BL.kb k3;replace OC:=ag (au OC.o k3 (by simp));replace OT:=ag (au OT.o k3 (by simp));try replace OO:=ag (au OO.o k3 (by simp))
    clear k3 HSX;have l0:=Bl.o.cell 0;have l1:=Bl.o.cell 1;have l2:=Bl.o.cell 2;simp at l0 l1 l2;refine hK.out _ _ (by exact⟨l0,l1,l2⟩) fun ah=> ?_;clear hK K;try simp only[Act.put,sA,sB,sC]
    refine t2 [3] ?_;refine AllReadyH.cons rfl (fun K hK=> ?_) ?_
    ·clear ah;go_simp
     (with_reducible refine(COr.o _ (HTB.o.keep (TW0.o.ak HK.o)) (HF.o.keep (TW0.o.ak HK.o))).mono ?_)
     rintro e Y2 ⟨⟨ov,rfl,ord,hov,hord⟩,k3⟩;have HSX:=ag HK.o.size;have OO:=ag (dm hov HSX.o);have HO:=ag hord;clear hov hord;show K _ _;clear l0 l1 l2;replace Bl:=Bl.kb k3;replace HK:=HK.kt k3;replace BL:=BL.kb k3;replace OC:=ag (au OC.o k3 (by simp));replace OT:=ag (au OT.o k3 (by simp));try replace HP:=ag (HP.o.keep k3)
     clear k3 HSX;have l0:=Bl.o.cell 0;have l1:=Bl.o.cell 1;have l2:=Bl.o.cell 2;simp at l0 l1 l2;refine hK.out _ _ (by exact⟨l0,l1,l2⟩) fun ah=> ?_;clear hK K;try simp only[Act.put,sA,sB,sC]
     refine tp 4 4 rfl ah ?_;refine tp 5 5 rfl ah ?_;refine wpAnyH_done (by kernel_rfl) ?_ _;clear ah;go_wp2;go_meet;exact⟨gp,vp,P,ord,rfl,HP.o,HPO.o,OO.o,HO.o,BL.o,OC.o,OT.o,HK.o⟩
    exact AllReadyH.nil
   exact AllReadyH.nil
  case rest=>
   obtain⟨gp,vp,P,ord,rfl,hP,hPO,hOO,hHO,hBL,hOC,hOT,hr⟩:=hcut;clear BL OC OT;have HP:=ag hP.out;have HPO:=ag hPO.out;have OO:=ag hOO.out;have HO:=ag hHO.out;have BL:=ag hBL.out;have OC:=ag hOC.out;have OT:=ag hOT.out;clear hP hPO hOO hHO hBL hOC hOT;clear l0 l1 l2;replace Bl:=ag (Bl_W0.o.keep hr (by simp));replace HK:=ag hr;clear hr;have l0:=Bl.o.cell 0;have l1:=Bl.o.cell 1;have l2:=Bl.o.cell 2;simp at l0 l1 l2;obtain⟨oa,oc,rfl,-,-⟩:=cr OO.o;obtain⟨la,lc,rfl,-,-⟩:=cr OC.o;obtain⟨ta,tc,rfl,-,-⟩:=cr OT.o;have HFI:=ag (field_start (f:=f) (cs:=cs) (th:=th) (by rw[HFV.o.1,HFV.o.2.1,HFV.o.2.2];exact BL.o) (HF.o.keep (TW0.o.ak HK.o)) (by rw[HN.o];exact dm OC.o (Nat.zero_le _)) (HLA.o _ (HF.o.keep (TW0.o.ak HK.o))) (by rw[HTH.o.len];exact dm OT.o (Nat.zero_le _)));have HLG:=ag (show W0.heap.size≤L from HGE.o);clear BL OC OT HGE;have HMK:=ag (fun w=>make_boolsB nc hnc w);obtain⟨i39,hi39,he39⟩:=Option.map_eq_some_iff.1 info39c;simp only[Prod.mk.injEq]at he39;obtain⟨hz39,hs39,hb39⟩:=he39;go_wp2;go_loopw [24] (fun i' wx=>∃(k:Nat) (iv:Value) (vs:List Value),k≤f.nb∧i'= .int .i64 k∧Hid (ny wx L f cs th (List.replicate k (List.replicate nc true)) (.slice la nc lc) (.slice ta f.nb tc) iv vs)∧Hid (∀z,iv.ownBlock=some z→W0.heap.size≤z)∧Hid (uk wx W0.heap.size gp f.nb vp P)∧Hid (wx.ownsRow W0.heap.size 3 1 (.slice oa ord.length oc) ord.length (Cw ord))∧ai W0 wx []) (fun i' _=>f.nb -(intOf i').toNat)
   case atStart=>exact⟨0,_,_,Nat.zero_le _,rfl,HFI.o,fun z hz=>(by cases hz),HP.o,OO.o,HK.o⟩
   case round=>
    obtain⟨k,iv,vs,hk,rfl,hFI,hIG,hP,hOO,hr⟩:=hrel;have HIG:=ag hIG.out;clear hIG;clear HFI HP OO HK;have HFI:=ag hFI.out;have HP:=ag hP.out;have OO:=ag hOO.out;have HK:=ag hr;clear hFI hP hOO hr l0 l1 l2 Bl;have Bl:=ag (Bl_W0.o.keep HK.o (by simp));have l0:=Bl.o.cell 0;have l1:=Bl.o.cell 1;have l2:=Bl.o.cell 2;simp at l0 l1 l2;obtain⟨ia,ic,rfl,-,-⟩:=cr HFI.o.i;by_cases hlk:k<f.nb
    ·have hlkz:(k:Int)<(f.nb:Int):=(by omega);go_upto_region 5 with(fail)
     refine wp_region_held_drew (S:=(fun _=>True)) (by kernel_rfl) ?ghS (fun ah=> ?_)
     case ghS=>exact trivial
     clear l0 l1 l2 Bl;replace HFI:=ag (HFI.o.keep ((ai.refl _ []).drew));replace HP:=ag (HP.o.keep ((ai.refl _ []).drew));replace OO:=ag (au OO.o ((ai.refl _ []).drew) (by simp));replace HK:=ag (HK.o.drew);generalize World.drew _=X0 at*;refine tp 0 26 rfl ah ?_;refine tp 1 27 rfl ah ?_;refine tp 2 28 rfl ah ?_;refine tp 3 29 rfl ah ?_;refine tp 6 32 rfl ah ?_;refine tp 7 33 rfl ah ?_;refine tp 8 34 rfl ah ?_;refine t2 [4,5,9] ?_;refine AllReadyH.cons rfl (fun K hK=> ?_) ?_
     ·clear ah;have f5:X0.cell? ⟨L,5,none⟩=some (.slice ia k ic):=(by have h9:=HFI.o.box.cell 5;simpa using h9);go_simp;clear f5;show K _ _;refine hK.out _ _ (by exact trivial) fun ah=> ?_;clear hK K;try simp only[Act.put,sA,sB,sC]
      refine t2 [5,9] ?_;refine AllReadyH.cons rfl (fun K hK=> ?_) ?_
      ·clear ah;go_simp;have k3:ai X0 (X0.alloc (.cells #[.bool true] 4)) []:=(ai.refl _ []).alloc _;have BT0:=ag (Blk.new X0 4 #[.bool true]);replace HFI:=ag (HFI.o.keep k3);replace HP:=ag (HP.o.keep k3);replace OO:=ag (au OO.o k3 (by simp));replace HK:=HK.kt k3;have BT:=BT0;clear k3 BT0;generalize X0.alloc (.cells #[.bool true] 4)=Y2 at*;generalize X0.heap.size=bt at*;refine hK.out _ _ (by exact trivial) fun ah=> ?_;clear hK K;try simp only[Act.put,sA,sB,sC]
       refine t2 [9] ?_;refine AllReadyH.cons rfl (fun K hK=> ?_) ?_
       ·clear ah;have f3:Y2.cell? ⟨L,3,none⟩=some (.slice la nc lc):=(by have h9:=HFI.o.box.cell 3;simpa using h9);go_simp;clear f3;show K _ _;refine hK.out _ _ (by exact trivial) fun ah=> ?_;clear hK K;try simp only[Act.put,sA,sB,sC]
        refine tp 10 36 rfl ah ?_;refine t2 [11] ?_;refine AllReadyH.cons rfl (fun K hK=> ?_) ?_
        ·clear ah;go_simp
         (with_reducible refine(uo nc bt _ hnc BT.o).mono ?_)
         rintro e Y4 ⟨⟨sv,rfl,hsv⟩,k3⟩;obtain⟨sa,sc,rfl,-,-⟩:=cr hsv;have OS0:=ag (dm hsv (Nat.zero_le _));clear hsv;show K _ _;replace HFI:=ag (HFI.o.keep k3);replace HP:=ag (HP.o.keep k3);replace OO:=ag (au OO.o k3 (by simp));replace HK:=HK.kt k3;try replace BT:=BT.kb k3
         have OS:=OS0;clear k3 OS0;refine hK.out _ _ (by exact trivial) fun ah=> ?_;clear hK K;try simp only[Act.put,sA,sB,sC]
         refine t2 [12] ?_;refine AllReadyH.cons rfl (fun K hK=> ?_) ?_
         ·clear ah;go_simp;have k3:ai Y4 (Y4.alloc (.cells #[.slice sa nc sc] 39)) []:=(ai.refl _ []).alloc _;have BN0:=ag (Blk.new Y4 39 #[.slice sa nc sc]);replace HFI:=ag (HFI.o.keep k3);replace HP:=ag (HP.o.keep k3);replace OO:=ag (au OO.o k3 (by simp));replace HK:=HK.kt k3;try replace BT:=BT.kb k3
          try replace OS:=ag (au OS.o k3 (by simp))
          have BN:=BN0;clear k3 BN0;generalize Y4.alloc (.cells #[.slice sa nc sc] 39)=Y5 at*;generalize Y4.heap.size=bn at*;refine hK.out _ _ (by exact trivial) fun ah=> ?_;clear hK K;try simp only[Act.put,sA,sB,sC]
          refine t2 [13] ?_;refine AllReadyH.cons rfl (fun K hK=> ?_) ?_
          ·clear ah;refine pq rfl (.tmp 30) (.tmp 38) 87 rfl W0.heap.size 39 i39 (.slice none 0 0) 1 24 Tryz.underlying87 hi39 hz39 hs39 hb39 rfl (by decide) (.slice ia k ic) k vs rfl (by have h9:=HFI.o.i;rw[List.length_replicate]at h9 HIG;exact ry h9 HIG.o) (.slice (some ⟨bn,0,none⟩) 1 1) [[.slice sa nc sc]] rfl (je BN.o) (by simp) (by simp[Value.oneCell']) (by simp;unfold maxLen;omega) (by simp;omega) HK.o.size ?_;intro v' Y6 hown hgrow;obtain⟨na,nd,rfl,-,-⟩:=cr hown;have HOW:=ag hown;have HGR:=ag hgrow;clear hown hgrow;show K _ _;obtain⟨XP,hXP⟩:∃XP:World,XP=Y5:=⟨_,rfl⟩;subst hXP;refine hK.out _ _ (by exact trivial) fun ah=> ?_;clear hK K;try simp only[Act.put,sA,sB,sC]
           refine tp 14 40 rfl ah ?_;refine tp 15 41 rfl ah ?_;refine t2 [16] ?_;refine AllReadyH.cons rfl (fun K hK=> ?_) ?_
           ·clear ah;have g5:Y6.cell? ⟨L,5,none⟩=some (.slice ia k ic):=(by have h9:=(fq HFI.o.box HFI.o.i (by decide) (by rw[List.length_replicate];exact HGR.o)).cell 5;simpa using h9);have g6:Y6.frozen? ⟨L,5,none⟩=false:=(fq HFI.o.box HFI.o.i (by decide) (by rw[List.length_replicate];exact HGR.o)).frozen 5;go_simp;clear g5 g6;have hK2:ai W0 (Y6.setCell ⟨L,5,none⟩ (.slice na (k+1) nd)) []:=(HK.o.grown HGR.o (fun z hz=> .inr (HIG.o z (by rw[List.length_replicate];exact hz)))).setCell (.inr HLG.o) _;have hF2:=HFI.o.snoc (by rw[HN.o];exact OS.o) (by rw[List.length_replicate];exact HGR.o) (by rw[List.length_replicate];exact dm HOW.o (Nat.zero_le _)) (HF.o.keep (TW0.o.ak hK2)) (HLA.o _ (HF.o.keep (TW0.o.ak hK2)));have hP2:=Ay (v:= .slice na (k+1) nd) HFI.o (by rw[List.length_replicate];exact HGR.o) HP.o;have hO2:=pz (v:= .slice na (k+1) nd) HFI.o (by rw[List.length_replicate];exact HGR.o) OO.o (by decide) (by decide);have HIN:=ag (show ∀z,(Value.slice na (k+1) nd).ownBlock=some z→W0.heap.size≤z from fun z hz=>(ig HOW.o hz).2);clear HFI HP OO HK HGR HOW BN OS;generalize(Y6.setCell ⟨L,5,none⟩ (.slice na (k+1) nd))=Y7 at*;have HFI:=ag hF2;have HP:=ag hP2;have OO:=ag hO2;have HK:=ag hK2;clear hF2 hP2 hO2 hK2;show K _ _;refine hK.out _ _ (by exact trivial) fun ah=> ?_;clear hK K;try simp only[Act.put,sA,sB,sC]
            refine wpAnyH_done (by kernel_rfl) ?_ _;clear ah;go_wp2;go_roundw
            case rel=>exact⟨k+1,_,_,by omega,by go_num,by rw[List.replicate_succ'];exact HFI.o,HIN.o,HP.o,OO.o,HK.o⟩
            case measure=>simp[intOf];omega
           exact AllReadyH.nil
          exact AllReadyH.nil
         exact AllReadyH.nil
        exact AllReadyH.nil
       exact AllReadyH.nil
      refine AllReadyH.cons rfl (fun K hK=> ?_) ?_
      ·clear ah;have f3:X0.cell? ⟨L,3,none⟩=some (.slice la nc lc):=(by have h9:=HFI.o.box.cell 3;simpa using h9);go_simp;clear f3;show K _ _;refine hK.out _ _ (by exact trivial) fun ah=> ?_;clear hK K;try simp only[Act.put,sA,sB,sC]
       refine tp 10 36 rfl ah ?_;refine t2 [5] ?_;refine AllReadyH.cons rfl (fun K hK=> ?_) ?_
       ·clear ah;go_simp;have k3:ai X0 (X0.alloc (.cells #[.bool true] 4)) []:=(ai.refl _ []).alloc _;have BT0:=ag (Blk.new X0 4 #[.bool true]);replace HFI:=ag (HFI.o.keep k3);replace HP:=ag (HP.o.keep k3);replace OO:=ag (au OO.o k3 (by simp));replace HK:=HK.kt k3;have BT:=BT0;clear k3 BT0;generalize X0.alloc (.cells #[.bool true] 4)=Y9 at*;generalize X0.heap.size=bt at*;refine hK.out _ _ (by exact trivial) fun ah=> ?_;clear hK K;try simp only[Act.put,sA,sB,sC]
        refine t2 [11] ?_;refine AllReadyH.cons rfl (fun K hK=> ?_) ?_
        ·clear ah;go_simp
         (with_reducible refine(uo nc bt _ hnc BT.o).mono ?_)
         rintro e Y10 ⟨⟨sv,rfl,hsv⟩,k3⟩;obtain⟨sa,sc,rfl,-,-⟩:=cr hsv;have OS0:=ag (dm hsv (Nat.zero_le _));clear hsv;show K _ _;replace HFI:=ag (HFI.o.keep k3);replace HP:=ag (HP.o.keep k3);replace OO:=ag (au OO.o k3 (by simp));replace HK:=HK.kt k3;try replace BT:=BT.kb k3
         have OS:=OS0;clear k3 OS0;refine hK.out _ _ (by exact trivial) fun ah=> ?_;clear hK K;try simp only[Act.put,sA,sB,sC]
         refine t2 [12] ?_;refine AllReadyH.cons rfl (fun K hK=> ?_) ?_
         ·clear ah;go_simp;have k3:ai Y10 (Y10.alloc (.cells #[.slice sa nc sc] 39)) []:=(ai.refl _ []).alloc _;have BN0:=ag (Blk.new Y10 39 #[.slice sa nc sc]);replace HFI:=ag (HFI.o.keep k3);replace HP:=ag (HP.o.keep k3);replace OO:=ag (au OO.o k3 (by simp));replace HK:=HK.kt k3;try replace BT:=BT.kb k3
          try replace OS:=ag (au OS.o k3 (by simp))
          have BN:=BN0;clear k3 BN0;generalize Y10.alloc (.cells #[.slice sa nc sc] 39)=Y11 at*;generalize Y10.heap.size=bn at*;refine hK.out _ _ (by exact trivial) fun ah=> ?_;clear hK K;try simp only[Act.put,sA,sB,sC]
          refine t2 [13] ?_;refine AllReadyH.cons rfl (fun K hK=> ?_) ?_
          ·clear ah;refine pq rfl (.tmp 30) (.tmp 38) 87 rfl W0.heap.size 39 i39 (.slice none 0 0) 1 24 Tryz.underlying87 hi39 hz39 hs39 hb39 rfl (by decide) (.slice ia k ic) k vs rfl (by have h9:=HFI.o.i;rw[List.length_replicate]at h9 HIG;exact ry h9 HIG.o) (.slice (some ⟨bn,0,none⟩) 1 1) [[.slice sa nc sc]] rfl (je BN.o) (by simp) (by simp[Value.oneCell']) (by simp;unfold maxLen;omega) (by simp;omega) HK.o.size ?_;intro v' Y12 hown hgrow;obtain⟨na,nd,rfl,-,-⟩:=cr hown;have HOW:=ag hown;have HGR:=ag hgrow;clear hown hgrow;show K _ _;obtain⟨XP,hXP⟩:∃XP:World,XP=Y11:=⟨_,rfl⟩;subst hXP;refine hK.out _ _ (by exact trivial) fun ah=> ?_;clear hK K;try simp only[Act.put,sA,sB,sC]
           refine tp 14 40 rfl ah ?_;refine tp 15 41 rfl ah ?_;refine t2 [16] ?_;refine AllReadyH.cons rfl (fun K hK=> ?_) ?_
           ·clear ah;have g5:Y12.cell? ⟨L,5,none⟩=some (.slice ia k ic):=(by have h9:=(fq HFI.o.box HFI.o.i (by decide) (by rw[List.length_replicate];exact HGR.o)).cell 5;simpa using h9);have g6:Y12.frozen? ⟨L,5,none⟩=false:=(fq HFI.o.box HFI.o.i (by decide) (by rw[List.length_replicate];exact HGR.o)).frozen 5;go_simp;clear g5 g6;have hK2:ai W0 (Y12.setCell ⟨L,5,none⟩ (.slice na (k+1) nd)) []:=(HK.o.grown HGR.o (fun z hz=> .inr (HIG.o z (by rw[List.length_replicate];exact hz)))).setCell (.inr HLG.o) _;have hF2:=HFI.o.snoc (by rw[HN.o];exact OS.o) (by rw[List.length_replicate];exact HGR.o) (by rw[List.length_replicate];exact dm HOW.o (Nat.zero_le _)) (HF.o.keep (TW0.o.ak hK2)) (HLA.o _ (HF.o.keep (TW0.o.ak hK2)));have hP2:=Ay (v:= .slice na (k+1) nd) HFI.o (by rw[List.length_replicate];exact HGR.o) HP.o;have hO2:=pz (v:= .slice na (k+1) nd) HFI.o (by rw[List.length_replicate];exact HGR.o) OO.o (by decide) (by decide);have HIN:=ag (show ∀z,(Value.slice na (k+1) nd).ownBlock=some z→W0.heap.size≤z from fun z hz=>(ig HOW.o hz).2);clear HFI HP OO HK HGR HOW BN OS;generalize(Y12.setCell ⟨L,5,none⟩ (.slice na (k+1) nd))=Y13 at*;have HFI:=ag hF2;have HP:=ag hP2;have OO:=ag hO2;have HK:=ag hK2;clear hF2 hP2 hO2 hK2;show K _ _;refine hK.out _ _ (by exact trivial) fun ah=> ?_;clear hK K;try simp only[Act.put,sA,sB,sC]
            refine wpAnyH_done (by kernel_rfl) ?_ _;clear ah;go_wp2;go_roundw
            case rel=>exact⟨k+1,_,_,by omega,by go_num,by rw[List.replicate_succ'];exact HFI.o,HIN.o,HP.o,OO.o,HK.o⟩
            case measure=>simp[intOf];omega
           exact AllReadyH.nil
          exact AllReadyH.nil
         exact AllReadyH.nil
        exact AllReadyH.nil
       exact AllReadyH.nil
      exact AllReadyH.nil
     refine AllReadyH.cons rfl (fun K hK=> ?_) ?_
     ·clear ah;go_simp;have k3:ai X0 (X0.alloc (.cells #[.bool true] 4)) []:=(ai.refl _ []).alloc _;have BT0:=ag (Blk.new X0 4 #[.bool true]);replace HFI:=ag (HFI.o.keep k3);replace HP:=ag (HP.o.keep k3);replace OO:=ag (au OO.o k3 (by simp));replace HK:=HK.kt k3;have BT:=BT0;clear k3 BT0;generalize X0.alloc (.cells #[.bool true] 4)=Y14 at*;generalize X0.heap.size=bt at*;refine hK.out _ _ (by exact trivial) fun ah=> ?_;clear hK K;try simp only[Act.put,sA,sB,sC]
      refine t2 [4,9] ?_;refine AllReadyH.cons rfl (fun K hK=> ?_) ?_
      ·clear ah;have f5:Y14.cell? ⟨L,5,none⟩=some (.slice ia k ic):=(by have h9:=HFI.o.box.cell 5;simpa using h9);go_simp;clear f5;show K _ _;refine hK.out _ _ (by exact trivial) fun ah=> ?_;clear hK K;try simp only[Act.put,sA,sB,sC]
       refine t2 [9] ?_;refine AllReadyH.cons rfl (fun K hK=> ?_) ?_
       ·clear ah;have f3:Y14.cell? ⟨L,3,none⟩=some (.slice la nc lc):=(by have h9:=HFI.o.box.cell 3;simpa using h9);go_simp;clear f3;show K _ _;refine hK.out _ _ (by exact trivial) fun ah=> ?_;clear hK K;try simp only[Act.put,sA,sB,sC]
        refine tp 10 36 rfl ah ?_;refine t2 [11] ?_;refine AllReadyH.cons rfl (fun K hK=> ?_) ?_
        ·clear ah;go_simp
         (with_reducible refine(uo nc bt _ hnc BT.o).mono ?_)
         rintro e Y17 ⟨⟨sv,rfl,hsv⟩,k3⟩;obtain⟨sa,sc,rfl,-,-⟩:=cr hsv;have OS0:=ag (dm hsv (Nat.zero_le _));clear hsv;show K _ _;replace HFI:=ag (HFI.o.keep k3);replace HP:=ag (HP.o.keep k3);replace OO:=ag (au OO.o k3 (by simp));replace HK:=HK.kt k3;try replace BT:=BT.kb k3
         have OS:=OS0;clear k3 OS0;refine hK.out _ _ (by exact trivial) fun ah=> ?_;clear hK K;try simp only[Act.put,sA,sB,sC]
         refine t2 [12] ?_;refine AllReadyH.cons rfl (fun K hK=> ?_) ?_
         ·clear ah;go_simp;have k3:ai Y17 (Y17.alloc (.cells #[.slice sa nc sc] 39)) []:=(ai.refl _ []).alloc _;have BN0:=ag (Blk.new Y17 39 #[.slice sa nc sc]);replace HFI:=ag (HFI.o.keep k3);replace HP:=ag (HP.o.keep k3);replace OO:=ag (au OO.o k3 (by simp));replace HK:=HK.kt k3;try replace BT:=BT.kb k3
          try replace OS:=ag (au OS.o k3 (by simp))
          have BN:=BN0;clear k3 BN0;generalize Y17.alloc (.cells #[.slice sa nc sc] 39)=Y18 at*;generalize Y17.heap.size=bn at*;refine hK.out _ _ (by exact trivial) fun ah=> ?_;clear hK K;try simp only[Act.put,sA,sB,sC]
          refine t2 [13] ?_;refine AllReadyH.cons rfl (fun K hK=> ?_) ?_
          ·clear ah;refine pq rfl (.tmp 30) (.tmp 38) 87 rfl W0.heap.size 39 i39 (.slice none 0 0) 1 24 Tryz.underlying87 hi39 hz39 hs39 hb39 rfl (by decide) (.slice ia k ic) k vs rfl (by have h9:=HFI.o.i;rw[List.length_replicate]at h9 HIG;exact ry h9 HIG.o) (.slice (some ⟨bn,0,none⟩) 1 1) [[.slice sa nc sc]] rfl (je BN.o) (by simp) (by simp[Value.oneCell']) (by simp;unfold maxLen;omega) (by simp;omega) HK.o.size ?_;intro v' Y19 hown hgrow;obtain⟨na,nd,rfl,-,-⟩:=cr hown;have HOW:=ag hown;have HGR:=ag hgrow;clear hown hgrow;show K _ _;obtain⟨XP,hXP⟩:∃XP:World,XP=Y18:=⟨_,rfl⟩;subst hXP;refine hK.out _ _ (by exact trivial) fun ah=> ?_;clear hK K;try simp only[Act.put,sA,sB,sC]
           refine tp 14 40 rfl ah ?_;refine tp 15 41 rfl ah ?_;refine t2 [16] ?_;refine AllReadyH.cons rfl (fun K hK=> ?_) ?_
           ·clear ah;have g5:Y19.cell? ⟨L,5,none⟩=some (.slice ia k ic):=(by have h9:=(fq HFI.o.box HFI.o.i (by decide) (by rw[List.length_replicate];exact HGR.o)).cell 5;simpa using h9);have g6:Y19.frozen? ⟨L,5,none⟩=false:=(fq HFI.o.box HFI.o.i (by decide) (by rw[List.length_replicate];exact HGR.o)).frozen 5;go_simp;clear g5 g6;have hK2:ai W0 (Y19.setCell ⟨L,5,none⟩ (.slice na (k+1) nd)) []:=(HK.o.grown HGR.o (fun z hz=> .inr (HIG.o z (by rw[List.length_replicate];exact hz)))).setCell (.inr HLG.o) _;have hF2:=HFI.o.snoc (by rw[HN.o];exact OS.o) (by rw[List.length_replicate];exact HGR.o) (by rw[List.length_replicate];exact dm HOW.o (Nat.zero_le _)) (HF.o.keep (TW0.o.ak hK2)) (HLA.o _ (HF.o.keep (TW0.o.ak hK2)));have hP2:=Ay (v:= .slice na (k+1) nd) HFI.o (by rw[List.length_replicate];exact HGR.o) HP.o;have hO2:=pz (v:= .slice na (k+1) nd) HFI.o (by rw[List.length_replicate];exact HGR.o) OO.o (by decide) (by decide);have HIN:=ag (show ∀z,(Value.slice na (k+1) nd).ownBlock=some z→W0.heap.size≤z from fun z hz=>(ig HOW.o hz).2);clear HFI HP OO HK HGR HOW BN OS;generalize(Y19.setCell ⟨L,5,none⟩ (.slice na (k+1) nd))=Y20 at*;have HFI:=ag hF2;have HP:=ag hP2;have OO:=ag hO2;have HK:=ag hK2;clear hF2 hP2 hO2 hK2;show K _ _;refine hK.out _ _ (by exact trivial) fun ah=> ?_;clear hK K;try simp only[Act.put,sA,sB,sC]
            refine wpAnyH_done (by kernel_rfl) ?_ _;clear ah;go_wp2;go_roundw
            case rel=>exact⟨k+1,_,_,by omega,by go_num,by rw[List.replicate_succ'];exact HFI.o,HIN.o,HP.o,OO.o,HK.o⟩
            case measure=>simp[intOf];omega
           exact AllReadyH.nil
          exact AllReadyH.nil
         exact AllReadyH.nil
        exact AllReadyH.nil
       exact AllReadyH.nil
      refine AllReadyH.cons rfl (fun K hK=> ?_) ?_
      ·clear ah;have f3:Y14.cell? ⟨L,3,none⟩=some (.slice la nc lc):=(by have h9:=HFI.o.box.cell 3;simpa using h9);go_simp;clear f3;show K _ _;refine hK.out _ _ (by exact trivial) fun ah=> ?_;clear hK K;try simp only[Act.put,sA,sB,sC]
       refine tp 10 36 rfl ah ?_;refine t2 [4,11] ?_;refine AllReadyH.cons rfl (fun K hK=> ?_) ?_
       ·clear ah;have f5:Y14.cell? ⟨L,5,none⟩=some (.slice ia k ic):=(by have h9:=HFI.o.box.cell 5;simpa using h9);go_simp;clear f5;show K _ _;refine hK.out _ _ (by exact trivial) fun ah=> ?_;clear hK K;try simp only[Act.put,sA,sB,sC]
        refine t2 [11] ?_;refine AllReadyH.cons rfl (fun K hK=> ?_) ?_
        ·clear ah;go_simp
         (with_reducible refine(uo nc bt _ hnc BT.o).mono ?_)
         rintro e Y23 ⟨⟨sv,rfl,hsv⟩,k3⟩;obtain⟨sa,sc,rfl,-,-⟩:=cr hsv;have OS0:=ag (dm hsv (Nat.zero_le _));clear hsv;show K _ _;replace HFI:=ag (HFI.o.keep k3);replace HP:=ag (HP.o.keep k3);replace OO:=ag (au OO.o k3 (by simp));replace HK:=HK.kt k3;try replace BT:=BT.kb k3
         have OS:=OS0;clear k3 OS0;refine hK.out _ _ (by exact trivial) fun ah=> ?_;clear hK K;try simp only[Act.put,sA,sB,sC]
         refine t2 [12] ?_;refine AllReadyH.cons rfl (fun K hK=> ?_) ?_
         ·clear ah;go_simp;have k3:ai Y23 (Y23.alloc (.cells #[.slice sa nc sc] 39)) []:=(ai.refl _ []).alloc _;have BN0:=ag (Blk.new Y23 39 #[.slice sa nc sc]);replace HFI:=ag (HFI.o.keep k3);replace HP:=ag (HP.o.keep k3);replace OO:=ag (au OO.o k3 (by simp));replace HK:=HK.kt k3;try replace BT:=BT.kb k3
          try replace OS:=ag (au OS.o k3 (by simp))
          have BN:=BN0;clear k3 BN0;generalize Y23.alloc (.cells #[.slice sa nc sc] 39)=Y24 at*;generalize Y23.heap.size=bn at*;refine hK.out _ _ (by exact trivial) fun ah=> ?_;clear hK K;try simp only[Act.put,sA,sB,sC]
          refine t2 [13] ?_;refine AllReadyH.cons rfl (fun K hK=> ?_) ?_
          ·clear ah;refine pq rfl (.tmp 30) (.tmp 38) 87 rfl W0.heap.size 39 i39 (.slice none 0 0) 1 24 Tryz.underlying87 hi39 hz39 hs39 hb39 rfl (by decide) (.slice ia k ic) k vs rfl (by have h9:=HFI.o.i;rw[List.length_replicate]at h9 HIG;exact ry h9 HIG.o) (.slice (some ⟨bn,0,none⟩) 1 1) [[.slice sa nc sc]] rfl (je BN.o) (by simp) (by simp[Value.oneCell']) (by simp;unfold maxLen;omega) (by simp;omega) HK.o.size ?_;intro v' Y25 hown hgrow;obtain⟨na,nd,rfl,-,-⟩:=cr hown;have HOW:=ag hown;have HGR:=ag hgrow;clear hown hgrow;show K _ _;obtain⟨XP,hXP⟩:∃XP:World,XP=Y24:=⟨_,rfl⟩;subst hXP;refine hK.out _ _ (by exact trivial) fun ah=> ?_;clear hK K;try simp only[Act.put,sA,sB,sC]
           refine tp 14 40 rfl ah ?_;refine tp 15 41 rfl ah ?_;refine t2 [16] ?_;refine AllReadyH.cons rfl (fun K hK=> ?_) ?_
           ·clear ah;have g5:Y25.cell? ⟨L,5,none⟩=some (.slice ia k ic):=(by have h9:=(fq HFI.o.box HFI.o.i (by decide) (by rw[List.length_replicate];exact HGR.o)).cell 5;simpa using h9);have g6:Y25.frozen? ⟨L,5,none⟩=false:=(fq HFI.o.box HFI.o.i (by decide) (by rw[List.length_replicate];exact HGR.o)).frozen 5;go_simp;clear g5 g6;have hK2:ai W0 (Y25.setCell ⟨L,5,none⟩ (.slice na (k+1) nd)) []:=(HK.o.grown HGR.o (fun z hz=> .inr (HIG.o z (by rw[List.length_replicate];exact hz)))).setCell (.inr HLG.o) _;have hF2:=HFI.o.snoc (by rw[HN.o];exact OS.o) (by rw[List.length_replicate];exact HGR.o) (by rw[List.length_replicate];exact dm HOW.o (Nat.zero_le _)) (HF.o.keep (TW0.o.ak hK2)) (HLA.o _ (HF.o.keep (TW0.o.ak hK2)));have hP2:=Ay (v:= .slice na (k+1) nd) HFI.o (by rw[List.length_replicate];exact HGR.o) HP.o;have hO2:=pz (v:= .slice na (k+1) nd) HFI.o (by rw[List.length_replicate];exact HGR.o) OO.o (by decide) (by decide);have HIN:=ag (show ∀z,(Value.slice na (k+1) nd).ownBlock=some z→W0.heap.size≤z from fun z hz=>(ig HOW.o hz).2);clear HFI HP OO HK HGR HOW BN OS;generalize(Y25.setCell ⟨L,5,none⟩ (.slice na (k+1) nd))=Y26 at*;have HFI:=ag hF2;have HP:=ag hP2;have OO:=ag hO2;have HK:=ag hK2;clear hF2 hP2 hO2 hK2;show K _ _;refine hK.out _ _ (by exact trivial) fun ah=> ?_;clear hK K;try simp only[Act.put,sA,sB,sC]
            refine wpAnyH_done (by kernel_rfl) ?_ _;clear ah;go_wp2;go_roundw
            case rel=>exact⟨k+1,_,_,by omega,by go_num,by rw[List.replicate_succ'];exact HFI.o,HIN.o,HP.o,OO.o,HK.o⟩
            case measure=>simp[intOf];omega
           exact AllReadyH.nil
          exact AllReadyH.nil
         exact AllReadyH.nil
        exact AllReadyH.nil
       refine AllReadyH.cons rfl (fun K hK=> ?_) ?_
       ·clear ah;go_simp
        (with_reducible refine(uo nc bt _ hnc BT.o).mono ?_)
        rintro e Y27 ⟨⟨sv,rfl,hsv⟩,k3⟩;obtain⟨sa,sc,rfl,-,-⟩:=cr hsv;have OS0:=ag (dm hsv (Nat.zero_le _));clear hsv;show K _ _;replace HFI:=ag (HFI.o.keep k3);replace HP:=ag (HP.o.keep k3);replace OO:=ag (au OO.o k3 (by simp));replace HK:=HK.kt k3;try replace BT:=BT.kb k3
        have OS:=OS0;clear k3 OS0;refine hK.out _ _ (by exact trivial) fun ah=> ?_;clear hK K;try simp only[Act.put,sA,sB,sC]
        refine t2 [4,12] ?_;refine AllReadyH.cons rfl (fun K hK=> ?_) ?_
        ·clear ah;have f5:Y27.cell? ⟨L,5,none⟩=some (.slice ia k ic):=(by have h9:=HFI.o.box.cell 5;simpa using h9);go_simp;clear f5;show K _ _;refine hK.out _ _ (by exact trivial) fun ah=> ?_;clear hK K;try simp only[Act.put,sA,sB,sC]
         refine t2 [12] ?_;refine AllReadyH.cons rfl (fun K hK=> ?_) ?_
         ·clear ah;go_simp;have k3:ai Y27 (Y27.alloc (.cells #[.slice sa nc sc] 39)) []:=(ai.refl _ []).alloc _;have BN0:=ag (Blk.new Y27 39 #[.slice sa nc sc]);replace HFI:=ag (HFI.o.keep k3);replace HP:=ag (HP.o.keep k3);replace OO:=ag (au OO.o k3 (by simp));replace HK:=HK.kt k3;try replace BT:=BT.kb k3
          try replace OS:=ag (au OS.o k3 (by simp))
          have BN:=BN0;clear k3 BN0;generalize Y27.alloc (.cells #[.slice sa nc sc] 39)=Y29 at*;generalize Y27.heap.size=bn at*;refine hK.out _ _ (by exact trivial) fun ah=> ?_;clear hK K;try simp only[Act.put,sA,sB,sC]
          refine t2 [13] ?_;refine AllReadyH.cons rfl (fun K hK=> ?_) ?_
          ·clear ah;refine pq rfl (.tmp 30) (.tmp 38) 87 rfl W0.heap.size 39 i39 (.slice none 0 0) 1 24 Tryz.underlying87 hi39 hz39 hs39 hb39 rfl (by decide) (.slice ia k ic) k vs rfl (by have h9:=HFI.o.i;rw[List.length_replicate]at h9 HIG;exact ry h9 HIG.o) (.slice (some ⟨bn,0,none⟩) 1 1) [[.slice sa nc sc]] rfl (je BN.o) (by simp) (by simp[Value.oneCell']) (by simp;unfold maxLen;omega) (by simp;omega) HK.o.size ?_;intro v' Y30 hown hgrow;obtain⟨na,nd,rfl,-,-⟩:=cr hown;have HOW:=ag hown;have HGR:=ag hgrow;clear hown hgrow;show K _ _;obtain⟨XP,hXP⟩:∃XP:World,XP=Y29:=⟨_,rfl⟩;subst hXP;refine hK.out _ _ (by exact trivial) fun ah=> ?_;clear hK K;try simp only[Act.put,sA,sB,sC]
           refine tp 14 40 rfl ah ?_;refine tp 15 41 rfl ah ?_;refine t2 [16] ?_;refine AllReadyH.cons rfl (fun K hK=> ?_) ?_
           ·clear ah;have g5:Y30.cell? ⟨L,5,none⟩=some (.slice ia k ic):=(by have h9:=(fq HFI.o.box HFI.o.i (by decide) (by rw[List.length_replicate];exact HGR.o)).cell 5;simpa using h9);have g6:Y30.frozen? ⟨L,5,none⟩=false:=(fq HFI.o.box HFI.o.i (by decide) (by rw[List.length_replicate];exact HGR.o)).frozen 5;go_simp;clear g5 g6;have hK2:ai W0 (Y30.setCell ⟨L,5,none⟩ (.slice na (k+1) nd)) []:=(HK.o.grown HGR.o (fun z hz=> .inr (HIG.o z (by rw[List.length_replicate];exact hz)))).setCell (.inr HLG.o) _;have hF2:=HFI.o.snoc (by rw[HN.o];exact OS.o) (by rw[List.length_replicate];exact HGR.o) (by rw[List.length_replicate];exact dm HOW.o (Nat.zero_le _)) (HF.o.keep (TW0.o.ak hK2)) (HLA.o _ (HF.o.keep (TW0.o.ak hK2)));have hP2:=Ay (v:= .slice na (k+1) nd) HFI.o (by rw[List.length_replicate];exact HGR.o) HP.o;have hO2:=pz (v:= .slice na (k+1) nd) HFI.o (by rw[List.length_replicate];exact HGR.o) OO.o (by decide) (by decide);have HIN:=ag (show ∀z,(Value.slice na (k+1) nd).ownBlock=some z→W0.heap.size≤z from fun z hz=>(ig HOW.o hz).2);clear HFI HP OO HK HGR HOW BN OS;generalize(Y30.setCell ⟨L,5,none⟩ (.slice na (k+1) nd))=Y31 at*;have HFI:=ag hF2;have HP:=ag hP2;have OO:=ag hO2;have HK:=ag hK2;clear hF2 hP2 hO2 hK2;show K _ _;refine hK.out _ _ (by exact trivial) fun ah=> ?_;clear hK K;try simp only[Act.put,sA,sB,sC]
            refine wpAnyH_done (by kernel_rfl) ?_ _;clear ah;go_wp2;go_roundw
            case rel=>exact⟨k+1,_,_,by omega,by go_num,by rw[List.replicate_succ'];exact HFI.o,HIN.o,HP.o,OO.o,HK.o⟩
            case measure=>simp[intOf];omega
           exact AllReadyH.nil
          exact AllReadyH.nil
         exact AllReadyH.nil
        refine AllReadyH.cons rfl (fun K hK=> ?_) ?_
        ·clear ah;go_simp;have k3:ai Y27 (Y27.alloc (.cells #[.slice sa nc sc] 39)) []:=(ai.refl _ []).alloc _;have BN0:=ag (Blk.new Y27 39 #[.slice sa nc sc]);replace HFI:=ag (HFI.o.keep k3);replace HP:=ag (HP.o.keep k3);replace OO:=ag (au OO.o k3 (by simp));replace HK:=HK.kt k3;try replace BT:=BT.kb k3
         try replace OS:=ag (au OS.o k3 (by simp))
         have BN:=BN0;clear k3 BN0;generalize Y27.alloc (.cells #[.slice sa nc sc] 39)=Y32 at*;generalize Y27.heap.size=bn at*;refine hK.out _ _ (by exact trivial) fun ah=> ?_;clear hK K;try simp only[Act.put,sA,sB,sC]
         refine t2 [4] ?_;refine AllReadyH.cons rfl (fun K hK=> ?_) ?_
         ·clear ah;have f5:Y32.cell? ⟨L,5,none⟩=some (.slice ia k ic):=(by have h9:=HFI.o.box.cell 5;simpa using h9);go_simp;clear f5;show K _ _;refine hK.out _ _ (by exact trivial) fun ah=> ?_;clear hK K;try simp only[Act.put,sA,sB,sC]
          refine t2 [13] ?_;refine AllReadyH.cons rfl (fun K hK=> ?_) ?_
          ·clear ah;refine pq rfl (.tmp 30) (.tmp 38) 87 rfl W0.heap.size 39 i39 (.slice none 0 0) 1 24 Tryz.underlying87 hi39 hz39 hs39 hb39 rfl (by decide) (.slice ia k ic) k vs rfl (by have h9:=HFI.o.i;rw[List.length_replicate]at h9 HIG;exact ry h9 HIG.o) (.slice (some ⟨bn,0,none⟩) 1 1) [[.slice sa nc sc]] rfl (je BN.o) (by simp) (by simp[Value.oneCell']) (by simp;unfold maxLen;omega) (by simp;omega) HK.o.size ?_;intro v' Y34 hown hgrow;obtain⟨na,nd,rfl,-,-⟩:=cr hown;have HOW:=ag hown;have HGR:=ag hgrow;clear hown hgrow;show K _ _;obtain⟨XP,hXP⟩:∃XP:World,XP=Y32:=⟨_,rfl⟩;subst hXP;refine hK.out _ _ (by exact trivial) fun ah=> ?_;clear hK K;try simp only[Act.put,sA,sB,sC]
           refine tp 14 40 rfl ah ?_;refine tp 15 41 rfl ah ?_;refine t2 [16] ?_;refine AllReadyH.cons rfl (fun K hK=> ?_) ?_
           ·clear ah;have g5:Y34.cell? ⟨L,5,none⟩=some (.slice ia k ic):=(by have h9:=(fq HFI.o.box HFI.o.i (by decide) (by rw[List.length_replicate];exact HGR.o)).cell 5;simpa using h9);have g6:Y34.frozen? ⟨L,5,none⟩=false:=(fq HFI.o.box HFI.o.i (by decide) (by rw[List.length_replicate];exact HGR.o)).frozen 5;go_simp;clear g5 g6;have hK2:ai W0 (Y34.setCell ⟨L,5,none⟩ (.slice na (k+1) nd)) []:=(HK.o.grown HGR.o (fun z hz=> .inr (HIG.o z (by rw[List.length_replicate];exact hz)))).setCell (.inr HLG.o) _;have hF2:=HFI.o.snoc (by rw[HN.o];exact OS.o) (by rw[List.length_replicate];exact HGR.o) (by rw[List.length_replicate];exact dm HOW.o (Nat.zero_le _)) (HF.o.keep (TW0.o.ak hK2)) (HLA.o _ (HF.o.keep (TW0.o.ak hK2)));have hP2:=Ay (v:= .slice na (k+1) nd) HFI.o (by rw[List.length_replicate];exact HGR.o) HP.o;have hO2:=pz (v:= .slice na (k+1) nd) HFI.o (by rw[List.length_replicate];exact HGR.o) OO.o (by decide) (by decide);have HIN:=ag (show ∀z,(Value.slice na (k+1) nd).ownBlock=some z→W0.heap.size≤z from fun z hz=>(ig HOW.o hz).2);clear HFI HP OO HK HGR HOW BN OS;generalize(Y34.setCell ⟨L,5,none⟩ (.slice na (k+1) nd))=Y35 at*;have HFI:=ag hF2;have HP:=ag hP2;have OO:=ag hO2;have HK:=ag hK2;clear hF2 hP2 hO2 hK2;show K _ _;refine hK.out _ _ (by exact trivial) fun ah=> ?_;clear hK K;try simp only[Act.put,sA,sB,sC]
            refine wpAnyH_done (by kernel_rfl) ?_ _;clear ah;go_wp2;go_roundw
            case rel=>exact⟨k+1,_,_,by omega,by go_num,by rw[List.replicate_succ'];exact HFI.o,HIN.o,HP.o,OO.o,HK.o⟩
            case measure=>simp[intOf];omega
           exact AllReadyH.nil
          exact AllReadyH.nil
         exact AllReadyH.nil
        exact AllReadyH.nil
       exact AllReadyH.nil
      exact AllReadyH.nil
     refine AllReadyH.cons rfl (fun K hK=> ?_) ?_
     ·clear ah;have f3:X0.cell? ⟨L,3,none⟩=some (.slice la nc lc):=(by have h9:=HFI.o.box.cell 3;simpa using h9);go_simp;clear f3;show K _ _;refine hK.out _ _ (by exact trivial) fun ah=> ?_;clear hK K;try simp only[Act.put,sA,sB,sC]
      refine tp 10 36 rfl ah ?_;refine t2 [4,5] ?_;refine AllReadyH.cons rfl (fun K hK=> ?_) ?_
      ·clear ah;have f5:X0.cell? ⟨L,5,none⟩=some (.slice ia k ic):=(by have h9:=HFI.o.box.cell 5;simpa using h9);go_simp;clear f5;show K _ _;refine hK.out _ _ (by exact trivial) fun ah=> ?_;clear hK K;try simp only[Act.put,sA,sB,sC]
       refine t2 [5] ?_;refine AllReadyH.cons rfl (fun K hK=> ?_) ?_
       ·clear ah;go_simp;have k3:ai X0 (X0.alloc (.cells #[.bool true] 4)) []:=(ai.refl _ []).alloc _;have BT0:=ag (Blk.new X0 4 #[.bool true]);replace HFI:=ag (HFI.o.keep k3);replace HP:=ag (HP.o.keep k3);replace OO:=ag (au OO.o k3 (by simp));replace HK:=HK.kt k3;have BT:=BT0;clear k3 BT0;generalize X0.alloc (.cells #[.bool true] 4)=Y38 at*;generalize X0.heap.size=bt at*;refine hK.out _ _ (by exact trivial) fun ah=> ?_;clear hK K;try simp only[Act.put,sA,sB,sC]
        refine t2 [11] ?_;refine AllReadyH.cons rfl (fun K hK=> ?_) ?_
        ·clear ah;go_simp
         (with_reducible refine(uo nc bt _ hnc BT.o).mono ?_)
         rintro e Y39 ⟨⟨sv,rfl,hsv⟩,k3⟩;obtain⟨sa,sc,rfl,-,-⟩:=cr hsv;have OS0:=ag (dm hsv (Nat.zero_le _));clear hsv;show K _ _;replace HFI:=ag (HFI.o.keep k3);replace HP:=ag (HP.o.keep k3);replace OO:=ag (au OO.o k3 (by simp));replace HK:=HK.kt k3;try replace BT:=BT.kb k3
         have OS:=OS0;clear k3 OS0;refine hK.out _ _ (by exact trivial) fun ah=> ?_;clear hK K;try simp only[Act.put,sA,sB,sC]
         refine t2 [12] ?_;refine AllReadyH.cons rfl (fun K hK=> ?_) ?_
         ·clear ah;go_simp;have k3:ai Y39 (Y39.alloc (.cells #[.slice sa nc sc] 39)) []:=(ai.refl _ []).alloc _;have BN0:=ag (Blk.new Y39 39 #[.slice sa nc sc]);replace HFI:=ag (HFI.o.keep k3);replace HP:=ag (HP.o.keep k3);replace OO:=ag (au OO.o k3 (by simp));replace HK:=HK.kt k3;try replace BT:=BT.kb k3
          try replace OS:=ag (au OS.o k3 (by simp))
          have BN:=BN0;clear k3 BN0;generalize Y39.alloc (.cells #[.slice sa nc sc] 39)=Y40 at*;generalize Y39.heap.size=bn at*;refine hK.out _ _ (by exact trivial) fun ah=> ?_;clear hK K;try simp only[Act.put,sA,sB,sC]
          refine t2 [13] ?_;refine AllReadyH.cons rfl (fun K hK=> ?_) ?_
          ·clear ah;refine pq rfl (.tmp 30) (.tmp 38) 87 rfl W0.heap.size 39 i39 (.slice none 0 0) 1 24 Tryz.underlying87 hi39 hz39 hs39 hb39 rfl (by decide) (.slice ia k ic) k vs rfl (by have h9:=HFI.o.i;rw[List.length_replicate]at h9 HIG;exact ry h9 HIG.o) (.slice (some ⟨bn,0,none⟩) 1 1) [[.slice sa nc sc]] rfl (je BN.o) (by simp) (by simp[Value.oneCell']) (by simp;unfold maxLen;omega) (by simp;omega) HK.o.size ?_;intro v' Y41 hown hgrow;obtain⟨na,nd,rfl,-,-⟩:=cr hown;have HOW:=ag hown;have HGR:=ag hgrow;clear hown hgrow;show K _ _;obtain⟨XP,hXP⟩:∃XP:World,XP=Y40:=⟨_,rfl⟩;subst hXP;refine hK.out _ _ (by exact trivial) fun ah=> ?_;clear hK K;try simp only[Act.put,sA,sB,sC]
           refine tp 14 40 rfl ah ?_;refine tp 15 41 rfl ah ?_;refine t2 [16] ?_;refine AllReadyH.cons rfl (fun K hK=> ?_) ?_
           ·clear ah;have g5:Y41.cell? ⟨L,5,none⟩=some (.slice ia k ic):=(by have h9:=(fq HFI.o.box HFI.o.i (by decide) (by rw[List.length_replicate];exact HGR.o)).cell 5;simpa using h9);have g6:Y41.frozen? ⟨L,5,none⟩=false:=(fq HFI.o.box HFI.o.i (by decide) (by rw[List.length_replicate];exact HGR.o)).frozen 5;go_simp;clear g5 g6;have hK2:ai W0 (Y41.setCell ⟨L,5,none⟩ (.slice na (k+1) nd)) []:=(HK.o.grown HGR.o (fun z hz=> .inr (HIG.o z (by rw[List.length_replicate];exact hz)))).setCell (.inr HLG.o) _;have hF2:=HFI.o.snoc (by rw[HN.o];exact OS.o) (by rw[List.length_replicate];exact HGR.o) (by rw[List.length_replicate];exact dm HOW.o (Nat.zero_le _)) (HF.o.keep (TW0.o.ak hK2)) (HLA.o _ (HF.o.keep (TW0.o.ak hK2)));have hP2:=Ay (v:= .slice na (k+1) nd) HFI.o (by rw[List.length_replicate];exact HGR.o) HP.o;have hO2:=pz (v:= .slice na (k+1) nd) HFI.o (by rw[List.length_replicate];exact HGR.o) OO.o (by decide) (by decide);have HIN:=ag (show ∀z,(Value.slice na (k+1) nd).ownBlock=some z→W0.heap.size≤z from fun z hz=>(ig HOW.o hz).2);clear HFI HP OO HK HGR HOW BN OS;generalize(Y41.setCell ⟨L,5,none⟩ (.slice na (k+1) nd))=Y42 at*;have HFI:=ag hF2;have HP:=ag hP2;have OO:=ag hO2;have HK:=ag hK2;clear hF2 hP2 hO2 hK2;show K _ _;refine hK.out _ _ (by exact trivial) fun ah=> ?_;clear hK K;try simp only[Act.put,sA,sB,sC]
            refine wpAnyH_done (by kernel_rfl) ?_ _;clear ah;go_wp2;go_roundw
            case rel=>exact⟨k+1,_,_,by omega,by go_num,by rw[List.replicate_succ'];exact HFI.o,HIN.o,HP.o,OO.o,HK.o⟩
            case measure=>simp[intOf];omega
           exact AllReadyH.nil
          exact AllReadyH.nil
         exact AllReadyH.nil
        exact AllReadyH.nil
       exact AllReadyH.nil
      refine AllReadyH.cons rfl (fun K hK=> ?_) ?_
      ·clear ah;go_simp;have k3:ai X0 (X0.alloc (.cells #[.bool true] 4)) []:=(ai.refl _ []).alloc _;have BT0:=ag (Blk.new X0 4 #[.bool true]);replace HFI:=ag (HFI.o.keep k3);replace HP:=ag (HP.o.keep k3);replace OO:=ag (au OO.o k3 (by simp));replace HK:=HK.kt k3;have BT:=BT0;clear k3 BT0;generalize X0.alloc (.cells #[.bool true] 4)=Y43 at*;generalize X0.heap.size=bt at*;refine hK.out _ _ (by exact trivial) fun ah=> ?_;clear hK K;try simp only[Act.put,sA,sB,sC]
       refine t2 [4,11] ?_;refine AllReadyH.cons rfl (fun K hK=> ?_) ?_
       ·clear ah;have f5:Y43.cell? ⟨L,5,none⟩=some (.slice ia k ic):=(by have h9:=HFI.o.box.cell 5;simpa using h9);go_simp;clear f5;show K _ _;refine hK.out _ _ (by exact trivial) fun ah=> ?_;clear hK K;try simp only[Act.put,sA,sB,sC]
        refine t2 [11] ?_;refine AllReadyH.cons rfl (fun K hK=> ?_) ?_
        ·clear ah;go_simp
         (with_reducible refine(uo nc bt _ hnc BT.o).mono ?_)
         rintro e Y45 ⟨⟨sv,rfl,hsv⟩,k3⟩;obtain⟨sa,sc,rfl,-,-⟩:=cr hsv;have OS0:=ag (dm hsv (Nat.zero_le _));clear hsv;show K _ _;replace HFI:=ag (HFI.o.keep k3);replace HP:=ag (HP.o.keep k3);replace OO:=ag (au OO.o k3 (by simp));replace HK:=HK.kt k3;try replace BT:=BT.kb k3
         have OS:=OS0;clear k3 OS0;refine hK.out _ _ (by exact trivial) fun ah=> ?_;clear hK K;try simp only[Act.put,sA,sB,sC]
         refine t2 [12] ?_;refine AllReadyH.cons rfl (fun K hK=> ?_) ?_
         ·clear ah;go_simp;have k3:ai Y45 (Y45.alloc (.cells #[.slice sa nc sc] 39)) []:=(ai.refl _ []).alloc _;have BN0:=ag (Blk.new Y45 39 #[.slice sa nc sc]);replace HFI:=ag (HFI.o.keep k3);replace HP:=ag (HP.o.keep k3);replace OO:=ag (au OO.o k3 (by simp));replace HK:=HK.kt k3;try replace BT:=BT.kb k3
          try replace OS:=ag (au OS.o k3 (by simp))
          have BN:=BN0;clear k3 BN0;generalize Y45.alloc (.cells #[.slice sa nc sc] 39)=Y46 at*;generalize Y45.heap.size=bn at*;refine hK.out _ _ (by exact trivial) fun ah=> ?_;clear hK K;try simp only[Act.put,sA,sB,sC]
          refine t2 [13] ?_;refine AllReadyH.cons rfl (fun K hK=> ?_) ?_
          ·clear ah;refine pq rfl (.tmp 30) (.tmp 38) 87 rfl W0.heap.size 39 i39 (.slice none 0 0) 1 24 Tryz.underlying87 hi39 hz39 hs39 hb39 rfl (by decide) (.slice ia k ic) k vs rfl (by have h9:=HFI.o.i;rw[List.length_replicate]at h9 HIG;exact ry h9 HIG.o) (.slice (some ⟨bn,0,none⟩) 1 1) [[.slice sa nc sc]] rfl (je BN.o) (by simp) (by simp[Value.oneCell']) (by simp;unfold maxLen;omega) (by simp;omega) HK.o.size ?_;intro v' Y47 hown hgrow;obtain⟨na,nd,rfl,-,-⟩:=cr hown;have HOW:=ag hown;have HGR:=ag hgrow;clear hown hgrow;show K _ _;obtain⟨XP,hXP⟩:∃XP:World,XP=Y46:=⟨_,rfl⟩;subst hXP;refine hK.out _ _ (by exact trivial) fun ah=> ?_;clear hK K;try simp only[Act.put,sA,sB,sC]
           refine tp 14 40 rfl ah ?_;refine tp 15 41 rfl ah ?_;refine t2 [16] ?_;refine AllReadyH.cons rfl (fun K hK=> ?_) ?_
           ·clear ah;have g5:Y47.cell? ⟨L,5,none⟩=some (.slice ia k ic):=(by have h9:=(fq HFI.o.box HFI.o.i (by decide) (by rw[List.length_replicate];exact HGR.o)).cell 5;simpa using h9);have g6:Y47.frozen? ⟨L,5,none⟩=false:=(fq HFI.o.box HFI.o.i (by decide) (by rw[List.length_replicate];exact HGR.o)).frozen 5;go_simp;clear g5 g6;have hK2:ai W0 (Y47.setCell ⟨L,5,none⟩ (.slice na (k+1) nd)) []:=(HK.o.grown HGR.o (fun z hz=> .inr (HIG.o z (by rw[List.length_replicate];exact hz)))).setCell (.inr HLG.o) _;have hF2:=HFI.o.snoc (by rw[HN.o];exact OS.o) (by rw[List.length_replicate];exact HGR.o) (by rw[List.length_replicate];exact dm HOW.o (Nat.zero_le _)) (HF.o.keep (TW0.o.ak hK2)) (HLA.o _ (HF.o.keep (TW0.o.ak hK2)));have hP2:=Ay (v:= .slice na (k+1) nd) HFI.o (by rw[List.length_replicate];exact HGR.o) HP.o;have hO2:=pz (v:= .slice na (k+1) nd) HFI.o (by rw[List.length_replicate];exact HGR.o) OO.o (by decide) (by decide);have HIN:=ag (show ∀z,(Value.slice na (k+1) nd).ownBlock=some z→W0.heap.size≤z from fun z hz=>(ig HOW.o hz).2);clear HFI HP OO HK HGR HOW BN OS;generalize(Y47.setCell ⟨L,5,none⟩ (.slice na (k+1) nd))=Y48 at*;have HFI:=ag hF2;have HP:=ag hP2;have OO:=ag hO2;have HK:=ag hK2;clear hF2 hP2 hO2 hK2;show K _ _;refine hK.out _ _ (by exact trivial) fun ah=> ?_;clear hK K;try simp only[Act.put,sA,sB,sC]
            refine wpAnyH_done (by kernel_rfl) ?_ _;clear ah;go_wp2;go_roundw
            case rel=>exact⟨k+1,_,_,by omega,by go_num,by rw[List.replicate_succ'];exact HFI.o,HIN.o,HP.o,OO.o,HK.o⟩
            case measure=>simp[intOf];omega
           exact AllReadyH.nil
          exact AllReadyH.nil
         exact AllReadyH.nil
        exact AllReadyH.nil
       refine AllReadyH.cons rfl (fun K hK=> ?_) ?_
       ·clear ah;go_simp
        (with_reducible refine(uo nc bt _ hnc BT.o).mono ?_)
        rintro e Y49 ⟨⟨sv,rfl,hsv⟩,k3⟩;obtain⟨sa,sc,rfl,-,-⟩:=cr hsv;have OS0:=ag (dm hsv (Nat.zero_le _));clear hsv;show K _ _;replace HFI:=ag (HFI.o.keep k3);replace HP:=ag (HP.o.keep k3);replace OO:=ag (au OO.o k3 (by simp));replace HK:=HK.kt k3;try replace BT:=BT.kb k3
        have OS:=OS0;clear k3 OS0;refine hK.out _ _ (by exact trivial) fun ah=> ?_;clear hK K;try simp only[Act.put,sA,sB,sC]
        refine t2 [4,12] ?_;refine AllReadyH.cons rfl (fun K hK=> ?_) ?_
        ·clear ah;have f5:Y49.cell? ⟨L,5,none⟩=some (.slice ia k ic):=(by have h9:=HFI.o.box.cell 5;simpa using h9);go_simp;clear f5;show K _ _;refine hK.out _ _ (by exact trivial) fun ah=> ?_;clear hK K;try simp only[Act.put,sA,sB,sC]
         refine t2 [12] ?_;refine AllReadyH.cons rfl (fun K hK=> ?_) ?_
         ·clear ah;go_simp;have k3:ai Y49 (Y49.alloc (.cells #[.slice sa nc sc] 39)) []:=(ai.refl _ []).alloc _;have BN0:=ag (Blk.new Y49 39 #[.slice sa nc sc]);replace HFI:=ag (HFI.o.keep k3);replace HP:=ag (HP.o.keep k3);replace OO:=ag (au OO.o k3 (by simp));replace HK:=HK.kt k3;try replace BT:=BT.kb k3
          try replace OS:=ag (au OS.o k3 (by simp))
          have BN:=BN0;clear k3 BN0;generalize Y49.alloc (.cells #[.slice sa nc sc] 39)=Y51 at*;generalize Y49.heap.size=bn at*;refine hK.out _ _ (by exact trivial) fun ah=> ?_;clear hK K;try simp only[Act.put,sA,sB,sC]
          refine t2 [13] ?_;refine AllReadyH.cons rfl (fun K hK=> ?_) ?_
          ·clear ah;refine pq rfl (.tmp 30) (.tmp 38) 87 rfl W0.heap.size 39 i39 (.slice none 0 0) 1 24 Tryz.underlying87 hi39 hz39 hs39 hb39 rfl (by decide) (.slice ia k ic) k vs rfl (by have h9:=HFI.o.i;rw[List.length_replicate]at h9 HIG;exact ry h9 HIG.o) (.slice (some ⟨bn,0,none⟩) 1 1) [[.slice sa nc sc]] rfl (je BN.o) (by simp) (by simp[Value.oneCell']) (by simp;unfold maxLen;omega) (by simp;omega) HK.o.size ?_;intro v' Y52 hown hgrow;obtain⟨na,nd,rfl,-,-⟩:=cr hown;have HOW:=ag hown;have HGR:=ag hgrow;clear hown hgrow;show K _ _;obtain⟨XP,hXP⟩:∃XP:World,XP=Y51:=⟨_,rfl⟩;subst hXP;refine hK.out _ _ (by exact trivial) fun ah=> ?_;clear hK K;try simp only[Act.put,sA,sB,sC]
           refine tp 14 40 rfl ah ?_;refine tp 15 41 rfl ah ?_;refine t2 [16] ?_;refine AllReadyH.cons rfl (fun K hK=> ?_) ?_
           ·clear ah;have g5:Y52.cell? ⟨L,5,none⟩=some (.slice ia k ic):=(by have h9:=(fq HFI.o.box HFI.o.i (by decide) (by rw[List.length_replicate];exact HGR.o)).cell 5;simpa using h9);have g6:Y52.frozen? ⟨L,5,none⟩=false:=(fq HFI.o.box HFI.o.i (by decide) (by rw[List.length_replicate];exact HGR.o)).frozen 5;go_simp;clear g5 g6;have hK2:ai W0 (Y52.setCell ⟨L,5,none⟩ (.slice na (k+1) nd)) []:=(HK.o.grown HGR.o (fun z hz=> .inr (HIG.o z (by rw[List.length_replicate];exact hz)))).setCell (.inr HLG.o) _;have hF2:=HFI.o.snoc (by rw[HN.o];exact OS.o) (by rw[List.length_replicate];exact HGR.o) (by rw[List.length_replicate];exact dm HOW.o (Nat.zero_le _)) (HF.o.keep (TW0.o.ak hK2)) (HLA.o _ (HF.o.keep (TW0.o.ak hK2)));have hP2:=Ay (v:= .slice na (k+1) nd) HFI.o (by rw[List.length_replicate];exact HGR.o) HP.o;have hO2:=pz (v:= .slice na (k+1) nd) HFI.o (by rw[List.length_replicate];exact HGR.o) OO.o (by decide) (by decide);have HIN:=ag (show ∀z,(Value.slice na (k+1) nd).ownBlock=some z→W0.heap.size≤z from fun z hz=>(ig HOW.o hz).2);clear HFI HP OO HK HGR HOW BN OS;generalize(Y52.setCell ⟨L,5,none⟩ (.slice na (k+1) nd))=Y53 at*;have HFI:=ag hF2;have HP:=ag hP2;have OO:=ag hO2;have HK:=ag hK2;clear hF2 hP2 hO2 hK2;show K _ _;refine hK.out _ _ (by exact trivial) fun ah=> ?_;clear hK K;try simp only[Act.put,sA,sB,sC]
            refine wpAnyH_done (by kernel_rfl) ?_ _;clear ah;go_wp2;go_roundw
            case rel=>exact⟨k+1,_,_,by omega,by go_num,by rw[List.replicate_succ'];exact HFI.o,HIN.o,HP.o,OO.o,HK.o⟩
            case measure=>simp[intOf];omega
           exact AllReadyH.nil
          exact AllReadyH.nil
         exact AllReadyH.nil
        refine AllReadyH.cons rfl (fun K hK=> ?_) ?_
        ·clear ah;go_simp;have k3:ai Y49 (Y49.alloc (.cells #[.slice sa nc sc] 39)) []:=(ai.refl _ []).alloc _;have BN0:=ag (Blk.new Y49 39 #[.slice sa nc sc]);replace HFI:=ag (HFI.o.keep k3);replace HP:=ag (HP.o.keep k3);replace OO:=ag (au OO.o k3 (by simp));replace HK:=HK.kt k3;try replace BT:=BT.kb k3
         try replace OS:=ag (au OS.o k3 (by simp))
         have BN:=BN0;clear k3 BN0;generalize Y49.alloc (.cells #[.slice sa nc sc] 39)=Y54 at*;generalize Y49.heap.size=bn at*;refine hK.out _ _ (by exact trivial) fun ah=> ?_;clear hK K;try simp only[Act.put,sA,sB,sC]
         refine t2 [4] ?_;refine AllReadyH.cons rfl (fun K hK=> ?_) ?_
         ·clear ah;have f5:Y54.cell? ⟨L,5,none⟩=some (.slice ia k ic):=(by have h9:=HFI.o.box.cell 5;simpa using h9);go_simp;clear f5;show K _ _;refine hK.out _ _ (by exact trivial) fun ah=> ?_;clear hK K;try simp only[Act.put,sA,sB,sC]
          refine t2 [13] ?_;refine AllReadyH.cons rfl (fun K hK=> ?_) ?_
          ·clear ah;refine pq rfl (.tmp 30) (.tmp 38) 87 rfl W0.heap.size 39 i39 (.slice none 0 0) 1 24 Tryz.underlying87 hi39 hz39 hs39 hb39 rfl (by decide) (.slice ia k ic) k vs rfl (by have h9:=HFI.o.i;rw[List.length_replicate]at h9 HIG;exact ry h9 HIG.o) (.slice (some ⟨bn,0,none⟩) 1 1) [[.slice sa nc sc]] rfl (je BN.o) (by simp) (by simp[Value.oneCell']) (by simp;unfold maxLen;omega) (by simp;omega) HK.o.size ?_;intro v' Y56 hown hgrow;obtain⟨na,nd,rfl,-,-⟩:=cr hown;have HOW:=ag hown;have HGR:=ag hgrow;clear hown hgrow;show K _ _;obtain⟨XP,hXP⟩:∃XP:World,XP=Y54:=⟨_,rfl⟩;subst hXP;refine hK.out _ _ (by exact trivial) fun ah=> ?_;clear hK K;try simp only[Act.put,sA,sB,sC]
           refine tp 14 40 rfl ah ?_;refine tp 15 41 rfl ah ?_;refine t2 [16] ?_;refine AllReadyH.cons rfl (fun K hK=> ?_) ?_
           ·clear ah;have g5:Y56.cell? ⟨L,5,none⟩=some (.slice ia k ic):=(by have h9:=(fq HFI.o.box HFI.o.i (by decide) (by rw[List.length_replicate];exact HGR.o)).cell 5;simpa using h9);have g6:Y56.frozen? ⟨L,5,none⟩=false:=(fq HFI.o.box HFI.o.i (by decide) (by rw[List.length_replicate];exact HGR.o)).frozen 5;go_simp;clear g5 g6;have hK2:ai W0 (Y56.setCell ⟨L,5,none⟩ (.slice na (k+1) nd)) []:=(HK.o.grown HGR.o (fun z hz=> .inr (HIG.o z (by rw[List.length_replicate];exact hz)))).setCell (.inr HLG.o) _;have hF2:=HFI.o.snoc (by rw[HN.o];exact OS.o) (by rw[List.length_replicate];exact HGR.o) (by rw[List.length_replicate];exact dm HOW.o (Nat.zero_le _)) (HF.o.keep (TW0.o.ak hK2)) (HLA.o _ (HF.o.keep (TW0.o.ak hK2)));have hP2:=Ay (v:= .slice na (k+1) nd) HFI.o (by rw[List.length_replicate];exact HGR.o) HP.o;have hO2:=pz (v:= .slice na (k+1) nd) HFI.o (by rw[List.length_replicate];exact HGR.o) OO.o (by decide) (by decide);have HIN:=ag (show ∀z,(Value.slice na (k+1) nd).ownBlock=some z→W0.heap.size≤z from fun z hz=>(ig HOW.o hz).2);clear HFI HP OO HK HGR HOW BN OS;generalize(Y56.setCell ⟨L,5,none⟩ (.slice na (k+1) nd))=Y57 at*;have HFI:=ag hF2;have HP:=ag hP2;have OO:=ag hO2;have HK:=ag hK2;clear hF2 hP2 hO2 hK2;show K _ _;refine hK.out _ _ (by exact trivial) fun ah=> ?_;clear hK K;try simp only[Act.put,sA,sB,sC]
            refine wpAnyH_done (by kernel_rfl) ?_ _;clear ah;go_wp2;go_roundw
            case rel=>exact⟨k+1,_,_,by omega,by go_num,by rw[List.replicate_succ'];exact HFI.o,HIN.o,HP.o,OO.o,HK.o⟩
            case measure=>simp[intOf];omega
           exact AllReadyH.nil
          exact AllReadyH.nil
         exact AllReadyH.nil
        exact AllReadyH.nil
       exact AllReadyH.nil
      exact AllReadyH.nil
     exact AllReadyH.nil
    ·have hlkz:¬(k:Int)<(f.nb:Int):=(by omega);obtain rfl:k=f.nb:=by omega
     clear l0 l1 l2 Bl;obtain⟨I1,hI1⟩:∃I1,List.replicate f.nb (List.replicate nc true)=I1:=⟨_,rfl⟩;have HI1:=ag hI1;have hIL:I1.length=f.nb:=(by rw[←hI1];simp);rw[hI1,hIL]at HFI;rw[hI1,hIL]at HIG;have HIL:=ag hIL;clear hI1 hIL;obtain⟨G,capX,eG,-,hGo,-⟩:=ww HFI.o.i (by rw[HIL.o];exact hp);rw[HIL.o]at eG;simp only[Value.slice.injEq]at eG;obtain⟨rfl,-,rfl⟩:=eG;have HGO:=ag hGo;have HGG:=ag (HIG.o G rfl);clear hGo HIG;go_upto_region 7 with(fail)
     have f3:wr.cell? ⟨L,3,none⟩=some (.slice la nc lc):=(by have h9:=HFI.o.box.cell 3;simpa using h9);have f5:wr.cell? ⟨L,5,none⟩=some (.slice (some ⟨G,0,none⟩) f.nb ic):=(by have h9:=HFI.o.box.cell 5;simpa using h9);refine wp_region_held_drew (S:=(fun w'=>w'.cell? ⟨L,3,none⟩=some (.slice la nc lc)∧w'.cell? ⟨L,5,none⟩=some (.slice (some ⟨G,0,none⟩) f.nb ic))) (by kernel_rfl) ?ghS (fun ah=> ?_)
     case ghS=>exact⟨f3,f5⟩
     clear f3 f5;replace HFI:=ag (HFI.o.keep ((ai.refl _ []).drew));replace HP:=ag (HP.o.keep ((ai.refl _ []).drew));replace OO:=ag (au OO.o ((ai.refl _ []).drew) (by simp));replace HK:=ag (HK.o.drew);generalize World.drew _=X0 at*;have f3:X0.cell? ⟨L,3,none⟩=some (.slice la nc lc):=(by have h9:=HFI.o.box.cell 3;simpa using h9);have f5:X0.cell? ⟨L,5,none⟩=some (.slice (some ⟨G,0,none⟩) f.nb ic):=(by have h9:=HFI.o.box.cell 5;simpa using h9);refine tp 0 43 rfl ah ?_;refine tp 1 44 rfl ah ?_;refine tp 2 45 rfl ah ?_;refine tp 3 46 rfl ah ?_;refine tp 4 47 rfl ah ?_;refine tp 5 48 rfl ah ?_;refine tp 6 49 rfl ah ?_;refine tp 7 50 rfl ah ?_;refine tp 8 51 rfl ah ?_;refine t2 [9] ?_;refine AllReadyH.cons rfl (fun K hK=> ?_) ?_
     ·clear ah;have hmk:=HMK.o;go_simp;clear hmk f3 f5;have k3:ai X0 (X0.alloc (.cells (oz (List.replicate nc false)) 4)) []:=(ai.refl _ []).alloc _;have BS:=ag (Blk.new X0 4 (oz (List.replicate nc false)));replace HFI:=ag (HFI.o.keep k3);replace HP:=ag (HP.o.keep k3);replace OO:=ag (au OO.o k3 (by simp));replace HK:=HK.kt k3;clear k3;generalize X0.alloc (.cells (oz (List.replicate nc false)) 4)=Y1 at*;generalize X0.heap.size=gz at*;have f3:Y1.cell? ⟨L,3,none⟩=some (.slice la nc lc):=(by have h9:=HFI.o.box.cell 3;simpa using h9);have f5:Y1.cell? ⟨L,5,none⟩=some (.slice (some ⟨G,0,none⟩) f.nb ic):=(by have h9:=HFI.o.box.cell 5;simpa using h9);refine hK.out _ _ (by exact⟨f3,f5⟩) fun ah=> ?_;clear hK K;try simp only[Act.put,sA,sB,sC]
      refine tp 10 53 rfl ah ?_;refine t2 [11] ?_;refine AllReadyH.cons rfl (fun K hK=> ?_) ?_
      ·clear ah;have g1:=(jw HFI.o.i HGO.o (i:=0) (by rw[HIL.o];omega)).2;obtain⟨u0,g0⟩:∃u,Y1.cell? ⟨G,0,none⟩=some u:=⟨_,(jw HFI.o.i HGO.o (i:=0) (by rw[HIL.o];omega)).1.trans (getElem?_pos_bang (by have h9:=HFI.o.i.1;rw[HIL.o]at h9;omega))⟩;go_simp;clear g0 g1 f3 f5 u0;have hK2:ai W0 (Y1.setCell ⟨G,0,none⟩ (.slice (some ⟨gz,0,none⟩) nc nc)) []:=HK.o.setCell (.inr HGG.o) _;have hF2:=HFI.o.put HGO.o (b:=0) (by rw[HIL.o];exact hp) (by rw[HN.o];exact bitsR_own (n:=nc) BS.o (Nat.zero_le _) (by simp) (by unfold maxLen;omega)) (HF.o.keep (TW0.o.ak hK2)) (HLA.o _ (HF.o.keep (TW0.o.ak hK2)));have hP2:=HP.o.put39 (b:=0) (s:= .slice (some ⟨gz,0,none⟩) nc nc) HFI.o.i HGO.o;have hO2:=own_put39 (b:=0) (s:= .slice (some ⟨gz,0,none⟩) nc nc) OO.o (by decide) HFI.o.i HGO.o;clear HFI HP OO HK BS;generalize(Y1.setCell ⟨G,0,none⟩ (.slice (some ⟨gz,0,none⟩) nc nc))=Y2 at*;have HFI:=ag hF2;have HP:=ag hP2;have OO:=ag hO2;have HK:=ag hK2;clear hF2 hP2 hO2 hK2;show K _ _;have f3:Y2.cell? ⟨L,3,none⟩=some (.slice la nc lc):=(by have h9:=HFI.o.box.cell 3;simpa using h9);have f5:Y2.cell? ⟨L,5,none⟩=some (.slice (some ⟨G,0,none⟩) f.nb ic):=(by have h9:=HFI.o.box.cell 5;simpa using h9);refine hK.out _ _ (by exact⟨f3,f5⟩) fun ah=> ?_;clear hK K;try simp only[Act.put,sA,sB,sC]
       refine wpAnyH_done (by kernel_rfl) ?_ _;clear ah;clear f3 f5;have HGF:Hid (GF f th P (I1.set 0 (List.replicate nc false))):=ag (by rw[←HI1.o];have h9:=gf_start HE.o HTH.o HPO.o;rw[HCS.o,HN.o]at h9;exact h9);have HSM:=ag (show sumT (I1.set 0 (List.replicate nc false))≤f.nb*nc by rw[←HI1.o];exact sum_start _ _);go_wp2;go_loopg [6] (f.nb*nc+1) (fun g a6 wx=>∃(b:Bool) (I:List (List Bool)) (ws:List Value),a6= .bool b∧Hid (ny wx L f cs th I (.slice la nc lc) (.slice ta f.nb tc) (.slice (some ⟨G,0,none⟩) f.nb ic) ws)∧Hid (GF f th P I)∧(b=true→sumT I+1≤g)∧Hid (b=false→StillF f th P I)∧Hid (uk wx W0.heap.size gp f.nb vp P)∧Hid (wx.ownsRow W0.heap.size 3 1 (.slice oa ord.length oc) ord.length (Cw ord))∧ai W0 wx [])
       case atStart=>exact⟨true,_,_,rfl,HFI.o,HGF.o,fun _=>by have h9:=HSM.o;omega,fun e=>(by cases e),HP.o,OO.o,HK.o⟩
       case round=>
        obtain⟨b,I,ws,rfl,hFI,hGF,hg,hSt,hP,hOO,hr⟩:=hrel;clear HFI HP OO HK HGF HSM;have HFI:=ag hFI.out;have HGF:=ag hGF.out;have HST:=ag hSt.out;have HP:=ag hP.out;have OO:=ag hOO.out;have HK:=ag hr;clear hFI hGF hSt hP hOO hr;cases b
        ·go_wp2;go_ret;exact⟨⟨L,rfl,⟨th,I,_,_,_,ws,by rw[HCS.o];exact HFI.o,⟨hn,by rw[HCS.o,HN.o];exact hnc,HTH.o.len,HGF.o.il,HGF.o.iw,fun b hb=>checks_ok hb,HBD.o⟩,HTH.o,good_of HE.o HTH.o HPO.o HGF.o (HST.o (by first |rfl|trivial))⟩⟩,(TW0.o.ak HK.o)⟩
        ·have HGH:=ag (hg rfl);clear hg HST;obtain⟨m,hm⟩:∃m,ord.length=m+1:=⟨ord.length -1,by have h9:=HO.o.hd;cases ord with |nil=>cases h9|cons c l=>simp⟩;have HM:=ag hm;obtain⟨og,oc2,e1,-,hogo,-⟩:=ww OO.o (by omega);simp only[Value.slice.injEq]at e1;obtain⟨rfl,-,rfl⟩:=e1;have hocm:=own_capB OO.o;rw[hm]at hocm;have HOGO:=ag hogo;clear hogo;obtain⟨XA,hadd⟩:∃XA,(if oc=1 then(some (⟨og,0,none⟩:Addr))else(some (⟨og,1,none⟩:Addr)))=XA:=⟨_,rfl⟩;have HXA:=ag (show 0<m→XA=some ⟨og,1,none⟩from fun h=>by rw[←hadd,if_neg (by omega)]);have hm1:(1:Int)≤(ord.length:Int):=(by omega);have hmm:ord.length -1=m:=(by omega);have hmB:m≤9223372036854775807:=(by have h9:=hocm.2;unfold maxLen at h9;omega);clear hm;go_wp2;go_loopw [6,58] (fun a' i' wx=>∃(j:Nat) (g2:Bool) (I2:List (List Bool)) (ws2:List Value),j≤m∧i'= .int .i64 j∧a'= .bool g2∧Hid (ny wx L f cs th I2 (.slice la nc lc) (.slice ta f.nb tc) (.slice (some ⟨G,0,none⟩) f.nb ic) ws2)∧Hid (PassM f th P ord I I2 g2 j)∧Hid (uk wx W0.heap.size gp f.nb vp P)∧Hid (wx.ownsRow W0.heap.size 3 1 (.slice (some ⟨og,0,none⟩) ord.length oc) ord.length (Cw ord))∧ai W0 wx []) (fun _ i' _=>m -(intOf i').toNat)
         case atStart=>exact⟨0,false,I,ws,Nat.zero_le _,rfl,rfl,HFI.o,pm_start HGF.o,HP.o,OO.o,HK.o⟩
         case round=>
          obtain⟨j,g2,I2,ws2,hj,rfl,rfl,hFI,hPM,hP,hOO,hr⟩:=hrel;clear HFI HP OO HK;have HFI:=ag hFI.out;have HPM:=ag hPM.out;have HP:=ag hP.out;have OO:=ag hOO.out;have HK:=ag hr;clear hFI hPM hP hOO hr;by_cases hlj:j<m
          ·have hljz:(j:Int)<(m:Int):=(by omega);obtain rfl:=HXA.o (by omega);have e0:wr.cell? ⟨og,1+j,none⟩=some (.int .i64 (ord[j+1]! :Nat)):=(by rw[Nat.add_comm 1 j];exact(jw OO.o HOGO.o (i:=j+1) (by rw[HM.o];omega)).1.trans (natV_at (by rw[HM.o];omega)));obtain⟨hd0,hdr⟩:=ord_ne HO.o (j:=j) (by rw[HM.o];omega);have hdn:=rway_nb HE.o hdr;have HD0:=ag hd0;have HDR:=ag hdr;have PMS:=ag (fun he=>pm_same (g:=g2) HPM.o he);have PMP:=ag (fun he=>pm_put HE.o HTH.o HPO.o HPM.o hdr hd0 he);clear hd0 hdr;have HLI:=ag (show I2.length=f.nb from HPM.o.i.il);have HLW:=ag (HPM.o.i.iw);generalize ord[j+1]! =d at*;have hdz:(d:Int)<(f.nb:Int):=(by omega);have d0:=HP.o.cell hdn;have HR:=ag (HP.o.r d hdn);have HPL:=ag (HPO.o.len d hdn);have HPN:=ag (fun p hp=>((HPO.o.mem d hdn p).1 hp).1);generalize vp[d]! =vd at d0 HR;obtain⟨va,vc,rfl,-,-⟩:=cr HR.o;have HRI:=ag (show bu wr (.slice va P[d]!.length vc,P[d]!.map Int.ofNat)from uj (by have h9:=HR.o;rw[natV_ints]at h9;exact h9));have HFO:=ag (show FieldOK f cs th I2 from⟨hn,by rw[HN.o];exact hnc,HTH.o.len,HLI.o,fun b hb=>by have h9:=HLW.o b hb;rw[HCS.o]at h9;exact h9,fun b hb=>by have h9:=checks_ok hb;rw[HCS.o]at h9;exact h9,HBD.o⟩);have CM:=ag (meet_any f cs th I2 _ _ _ ws2 L (.slice va P[d]!.length vc,P[d]!.map Int.ofNat) P[d]! wr HFI.o HFO.o HRI.o rfl HPN.o (by have h9:=HPL.o;omega));have HMT:=ag (show ut f cs th I2 P[d]! P[d]!.length=mtL f th P I2 d by unfold mtL;rw[HCS.o]);rw[HMT.o]at CM;simp only[HN.o]at CM;clear HMT HRI HR HPL HPN;generalize hmt:mtL f th P I2 d=R at*;have HMT:=ag hmt;clear hmt;generalize P[d]!.length=pl at*;go_upto_region 15 with(first |(go_at_call 63;go_must(refine CM.o.mono ?_);rintro e w3 ⟨⟨sv,rfl,hsv⟩,k3⟩;obtain⟨sa,sc,rfl,-,-⟩:=cr hsv;have OS:=ag (dm hsv HK.o.size);clear hsv;replace HFI:=ag (HFI.o.keep k3);replace HP:=ag (HP.o.keep k3);replace OO:=ag (au OO.o k3 (by simp));replace HK:=HK.kt k3;clear k3 d0 e0))
           clear CM;have f5:w3.cell? ⟨L,5,none⟩=some (.slice (some ⟨G,0,none⟩) f.nb ic):=(by have h9:=HFI.o.box.cell 5;simpa using h9);have i0:w3.cell? ⟨G,d,none⟩=some ws2[d]! :=(jw HFI.o.i HGO.o (i:=d) (by rw[HLI.o];omega)).1.trans (getElem?_pos_bang (by have h9:=HFI.o.i.1;rw[HLI.o]at h9;omega));have i1:=(jw HFI.o.i HGO.o (i:=d) (by rw[HLI.o];omega)).2;have HIR:=ag (Bj (HFI.o.ir d (by rw[HLI.o];exact hdn)));have CE:=ag (equal_bits _ _ R I2[d]! w3 (Bj OS.o) HIR.o);generalize ws2[d]! =wd at*;cases hde:decide (R=I2[d]!)with
           |true=>
            rw[hde]at CE;have HEQ:=ag (of_decide_eq_true hde);clear hde;go_wp2_with (first |(go_at_call 64;go_must(refine CE.o.mono ?_);rintro e w4 ⟨rfl,k3⟩;replace OS:=ag (au OS.o k3 (by simp));replace HFI:=ag (HFI.o.keep k3);replace HP:=ag (HP.o.keep k3);replace OO:=ag (au OO.o k3 (by simp));replace HK:=HK.kt k3;replace i0:=k3.cellOf i0;replace f5:=k3.cellOf f5;clear i1;have i1:=(jw HFI.o.i HGO.o (i:=d) (by rw[HLI.o];omega)).2;clear k3))
            go_roundw
            case rel=>exact⟨j+1,g2,I2,ws2,by omega,by go_num,by first |rfl|trivial,HFI.o,PMS.o HEQ.o,HP.o,OO.o,HK.o⟩
            case measure=>simp[intOf];omega
           |false=>
            rw[hde]at CE;have HEQ:=ag (of_decide_eq_false hde);clear hde;go_wp2_with (first |(go_at_call 64;go_must(refine CE.o.mono ?_);rintro e w4 ⟨rfl,k3⟩;replace OS:=ag (au OS.o k3 (by simp));replace HFI:=ag (HFI.o.keep k3);replace HP:=ag (HP.o.keep k3);replace OO:=ag (au OO.o k3 (by simp));replace HK:=HK.kt k3;replace i0:=k3.cellOf i0;replace f5:=k3.cellOf f5;clear i1;have i1:=(jw HFI.o.i HGO.o (i:=d) (by rw[HLI.o];omega)).2;clear k3))
            go_roundw
            case rel=>exact⟨j+1,true,_,_,by omega,by go_num,by first |rfl|trivial,HFI.o.put HGO.o (b:=d) (by rw[HLI.o];exact hdn) (by rw[HN.o];exact dm OS.o (Nat.zero_le _)) (HF.o.keep (TW0.o.ak (HK.o.setCell (.inr HGG.o) _))) (HLA.o _ (HF.o.keep (TW0.o.ak (HK.o.setCell (.inr HGG.o) _)))),PMP.o HEQ.o,HP.o.put39 HFI.o.i HGO.o,own_put39 OO.o (by decide) HFI.o.i HGO.o,HK.o.setCell (.inr HGG.o) _⟩
            case measure=>simp[intOf];omega
          ·have hljz:¬(j:Int)<(m:Int):=(by omega);obtain rfl:j=m:=by omega
           go_wp2;obtain⟨gq,rfl⟩:∃gq,gk=gq+1:=⟨gk -1,by have h9:=HGH.o;omega⟩;go_roundg gq
           case measure=>omega
           case rel=>exact⟨g2,I2,ws2,rfl,HFI.o,HPM.o.i,fun e=>by have h9:=HGH.o;have h8:=HPM.o.yes e;omega,fun e=>pm_still HO.o (by have h9:=HPM.o;rw[e]at h9;rw[show ord.length -1=j by have h8:=HM.o;omega];exact h9),HP.o,OO.o,HK.o⟩
      exact AllReadyH.nil
     exact AllReadyH.nil
end Go.Proofs.YtjllbchfojonhaaGreatDoor
