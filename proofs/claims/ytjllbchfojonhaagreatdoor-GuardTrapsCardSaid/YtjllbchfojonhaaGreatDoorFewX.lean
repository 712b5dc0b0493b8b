/- A little program, exactly; contract. -/
import Derived.Test.YtjllbchfojonhaaGreatDoorTY
set_option linter.unusedVariables false
set_option linter.unusedSimpArgs false
set_option maxRecDepth 100000
set_option maxHeartbeats 200000000
namespace Go.Proofs.YtjllbchfojonhaaGreatDoor
open Go.RowKit
def fewV:List zi→Nat→Option Nat
 |[],n=>some n
 |v::l,n=>if 400<v.name.size then none else fewV l (n+v.name.size)
def Cr:List jk→Nat→Option Nat
 |[],n=>some n
 |p::l,n=>if 4000<n∨400<p.args.2.length∨400<p.froms.2.length then none else Cr l (n+(p.args.2.length+p.froms.2.length))
def Bw:List cu→Nat→Option Nat
 |[],n=>some n
 |x::l,n=>if 4000<n∨400<x.args.2.length then none else Bw l (n+x.args.2.length)
def Bo (b:df) (n:Nat) (K:Nat→Option Nat):Option Nat:=
 if 400<b.name.size∨400<b.phis.2.length∨400<b.insts.2.length then none
 else(Cr b.phis.2 (n+(b.name.size+10*(b.phis.2.length+b.insts.2.length)))).bind fun m=>(Bw b.insts.2 m).bind fun m2=>if 4000<m2 then none else K m2
def Ag:List df→Nat→Option Nat
 |[],n=>some n
 |b::l,n=>Bo b n (Ag l)
def Cs (f:ax):Bool:=
 if 100<f.nv∨40<f.nb∨20<f.np then false else((fewV f.vars.2 0).bind (Ag f.blocks.2)).isSome
theorem fewV_at {l:List zi} {k n:Nat} (hk:k<l.length):fewV (l.drop k) n=if 400<l[k]!.name.size then none else fewV (l.drop (k+1)) (n+l[k]!.name.size):=by
 rw[List.drop_eq_getElem_cons hk,getElem!_pos l k hk];rfl
theorem fewV_end (l:List zi) (n:Nat):fewV (l.drop l.length) n=some n:=by rw[List.drop_length];rfl
theorem fewPh_at {l:List jk} {k n:Nat} (hk:k<l.length):Cr (l.drop k) n=if 4000<n∨400<l[k]!.args.2.length∨400<l[k]!.froms.2.length then none else Cr (l.drop (k+1)) (n+(l[k]!.args.2.length+l[k]!.froms.2.length)):=by
 rw[List.drop_eq_getElem_cons hk,getElem!_pos l k hk];rfl
theorem fewPh_end (l:List jk) (n:Nat):Cr (l.drop l.length) n=some n:=by rw[List.drop_length];rfl
theorem fewIn_at {l:List cu} {k n:Nat} (hk:k<l.length):Bw (l.drop k) n=if 4000<n∨400<l[k]!.args.2.length then none else Bw (l.drop (k+1)) (n+l[k]!.args.2.length):=by
 rw[List.drop_eq_getElem_cons hk,getElem!_pos l k hk];rfl
theorem fewIn_end (l:List cu) (n:Nat):Bw (l.drop l.length) n=some n:=by rw[List.drop_length];rfl
theorem fewBl_at {l:List df} {k n:Nat} (hk:k<l.length):Ag (l.drop k) n=Bo l[k]! n (Ag (l.drop (k+1))):=by
 rw[List.drop_eq_getElem_cons hk,getElem!_pos l k hk];rfl
theorem fewBl_end (l:List df) (n:Nat):Ag (l.drop l.length) n=some n:=by rw[List.drop_length];rfl
theorem fewB_no {f:ax} (h:100<f.nv∨40<f.nb∨20<f.np):Cs f=false:=by unfold Cs;rw[if_pos h]
theorem fewB_v {f:ax} (h:fewV f.vars.2 0=none):Cs f=false:=by unfold Cs;split;rfl;rw[h];rfl
theorem fewB_b {f:ax} {n:Nat} (h:fewV f.vars.2 0=some n) (h2:Ag f.blocks.2 n=none):Cs f=false:=by unfold Cs;split;rfl;rw[h];show(Ag f.blocks.2 n).isSome=false;rw[h2];rfl
theorem fewB_yes {f:ax} {n m:Nat} (h0:¬(100<f.nv∨40<f.nb∨20<f.np)) (h:fewV f.vars.2 0=some n) (h2:Ag f.blocks.2 n=some m):Cs f=true:=by unfold Cs;rw[if_neg h0,h];show(Ag f.blocks.2 n).isSome=true;rw[h2];rfl
theorem fewOne_1 {b:df} {n:Nat} {K:Nat→Option Nat} (h:400<b.name.size∨400<b.phis.2.length∨400<b.insts.2.length):Bo b n K=none:=by unfold Bo;rw[if_pos h]
theorem fewOne_2 {b:df} {n:Nat} {K:Nat→Option Nat} (h0:¬(400<b.name.size∨400<b.phis.2.length∨400<b.insts.2.length)) (h:Cr b.phis.2 (n+(b.name.size+10*(b.phis.2.length+b.insts.2.length)))=none):Bo b n K=none:=by unfold Bo;rw[if_neg h0,h];rfl
theorem fewOne_3 {b:df} {n m:Nat} {K:Nat→Option Nat} (h0:¬(400<b.name.size∨400<b.phis.2.length∨400<b.insts.2.length)) (h:Cr b.phis.2 (n+(b.name.size+10*(b.phis.2.length+b.insts.2.length)))=some m) (h2:Bw b.insts.2 m=none):Bo b n K=none:=by unfold Bo;rw[if_neg h0,h];show(Bw b.insts.2 m).bind _=none;rw[h2];rfl
theorem fewOne_4 {b:df} {n m m2:Nat} {K:Nat→Option Nat} (h0:¬(400<b.name.size∨400<b.phis.2.length∨400<b.insts.2.length)) (h:Cr b.phis.2 (n+(b.name.size+10*(b.phis.2.length+b.insts.2.length)))=some m) (h2:Bw b.insts.2 m=some m2):Bo b n K=if 4000<m2 then none else K m2:=by unfold Bo;rw[if_neg h0,h];show(Bw b.insts.2 m).bind _=_;rw[h2];rfl
theorem few_exact (f:ax) (w:World) (hf:cz w f):Calls Tryz.prog 16 #[f.val] w fun e w'=>e= .returned (.bool (Cs f))∧ai w w' []:=by
 obtain⟨a0,c0,a1,c1,a2,c2,e0,e1,e2,hval,h1,HF,HC0,HC1,HC2,HNV,HNP,HNB⟩:=qj hf;rw[hval];clear e0 e1 e2 hval h1 hf;have HNO:=ag (fun h=>fewB_no (f:=f) h);have HVN:=ag (fun h=>fewB_v (f:=f) h);have HBNN:=ag (fun n h h2=>fewB_b (f:=f) (n:=n) h h2);have HYES:=ag (fun n m h0 h h2=>fewB_yes (f:=f) (n:=n) (m:=m) h0 h h2);generalize Cs f=RB at*;have hk0:ai w (w.alloc (.cells #[.slice a0 f.nv c0,.slice a1 f.np c1,.slice a2 f.nb c2] 26)) []:=(ai.refl _ []).alloc _;have bb0:=Blk.new w 26 #[.slice a0 f.nv c0,.slice a1 f.np c1,.slice a2 f.nb c2];have Bl:=ag bb0;have HK:=ag hk0;have l0:=Bl.o.cell 0;have l1:=Bl.o.cell 1;have l2:=Bl.o.cell 2;simp at l0 l1 l2;clear hk0 bb0;by_cases hnv:(100:Int)<(f.nv:Int)
 ·go_enter Tryz.func16,Tryz.ntmps16;go_wp2;go_ret;exact⟨ay (HNO.o (by omega)).symm,HK.o⟩
 by_cases hnb:(40:Int)<(f.nb:Int)
 ·go_enter Tryz.func16,Tryz.ntmps16;go_wp2;go_ret;exact⟨ay (HNO.o (by omega)).symm,HK.o⟩
 by_cases hnp:(20:Int)<(f.np:Int)
 ·go_enter Tryz.func16,Tryz.ntmps16;go_wp2;go_ret;exact⟨ay (HNO.o (by omega)).symm,HK.o⟩
 go_enter Tryz.func16,Tryz.ntmps16;go_wp2;clear l0 l1 l2;generalize(w.alloc (.cells #[.slice a0 f.nv c0,.slice a1 f.np c1,.slice a2 f.nb c2] 26))=W0 at*;have Bl_W0:=Bl;have TW0:=HK;clear HK;have HK:=ag (ai.refl W0 []);have l0:=Bl.o.cell 0;have l1:=Bl.o.cell 1;have l2:=Bl.o.cell 2;simp at l0 l1 l2;go_loopw [3,31] (fun s i wr=>∃k n:Nat,k≤f.nv∧i= .int .i64 k∧s= .int .i64 n∧ai W0 wr []∧n≤400*k∧Hid (fewV (f.vars.2.drop k) n=fewV f.vars.2 0)) (fun _ i _=>f.nv -(intOf i).toNat)
 case atStart=>exact⟨0,0,Nat.zero_le _,rfl,rfl,HK.o,Nat.le_refl _,(show Hid _ from by show _=_;rw[List.drop_zero])⟩
 case round=>
  obtain⟨k,n,hk,rfl,rfl,hr,hn,HV⟩:=hrel;clear l0 l1 l2;clear Bl HK;have HK:=ag hr;have Bl:=ag (Bl_W0.o.keep hr (by simp));clear hr;have l0:=Bl.o.cell 0;have l1:=Bl.o.cell 1;have l2:=Bl.o.cell 2;simp at l0 l1 l2;by_cases hlt:k<f.nv
  ·have hltz:(k:Int)<(f.nv:Int):=(by omega);obtain⟨bb,off,rfl,hbl,hcell⟩:=HC0.o k (by rw[HNV.o];exact hlt);have n0:=(TW0.o.ak HK.o).cellOf (hcell 0 _ rfl);have n1:=(TW0.o.ak HK.o).cellOf (hcell 1 _ rfl);simp only[Nat.add_zero]at n0;have hvs:=HV.o;rw[fewV_at (by rw[HNV.o];exact hlt)]at hvs;clear hcell HC0;generalize f.vars.2[k]! =y at*;generalize y.name=yn at*;have HVS:=ag hvs;clear hvs;generalize y.type=yt at*;clear l0 l1 l2;have bmx:=Blk.new wr 83 #[.string yn,.int .i64 yt];have k3:ai wr (wr.alloc (.cells #[.string yn,.int .i64 yt] 83)) []:=(ai.refl wr []).alloc _;have Blx:=ag (Bl.o.keep k3 (by simp));have HKx:=ag (HK.o.ak k3);clear k3 Bl HK;have Bl:=Blx;have HK:=HKx;have Bm:=ag bmx;clear bmx Blx HKx;have l0:=Bl.o.cell 0;have l1:=Bl.o.cell 1;have l2:=Bl.o.cell 2;have m0:=Bm.o.cell 0;have m1:=Bm.o.cell 1;simp at l0 l1 l2 m0 m1;by_cases hs:(400:Int)<(yn.size:Int)
   ·go_wp2;go_ret;exact⟨ay (HVN.o (by rw[←HVS.o,if_pos (by omega)])).symm,(TW0.o.ak HK.o)⟩
   ·have HV2:Hid (fewV (f.vars.2.drop (k+1)) (n+yn.size)=fewV f.vars.2 0):=(by have h:=HVS.o;rw[if_neg (by omega)]at h;exact h);go_wp2;go_roundw
    case rel=>exact⟨k+1,n+yn.size,by omega,by go_num,by go_num,HK.o,by omega,HV2⟩
    case measure=>simp[intOf];omega
  ·have hltz:¬(k:Int)<(f.nv:Int):=(by omega);have hn2:n≤40000:=(by omega);have HVF:Hid (fewV f.vars.2 0=some n):=(by have hkk:k=f.nv:=(by omega);have h:=HV.o;rw[hkk,←HNV.o,fewV_end]at h;exact h.symm);go_wp2;clear hn hltz hlt hk HV;obtain⟨n9,hn9⟩:∃n9,n=n9:=⟨_,rfl⟩;have HN9:=ag hn9;rw[hn9]at HVF;clear hn9;go_loopw [3,48] (fun s i wr=>∃k n:Nat,k≤f.nb∧i= .int .i64 k∧s= .int .i64 n∧ai W0 wr []∧n≤40000+1000000*k∧Hid (Ag (f.blocks.2.drop k) n=Ag f.blocks.2 n9)) (fun _ i _=>f.nb -(intOf i).toNat)
   case atStart=>exact⟨0,n,Nat.zero_le _,rfl,rfl,HK.o,by omega,(show Hid _ from by show _=_;rw[List.drop_zero,HN9.o])⟩
   case round=>
    clear hn2;obtain⟨k,n,hk,rfl,rfl,hr,hn,HBv⟩:=hrel;obtain⟨wo,hwo⟩:∃wo:World,wo=wr:=⟨_,rfl⟩;subst hwo;clear l0 l1 l2;clear Bl HK;have HK:=ag hr;have Bl:=ag (Bl_W0.o.keep hr (by simp));clear hr;have l0:=Bl.o.cell 0;have l1:=Bl.o.cell 1;have l2:=Bl.o.cell 2;simp at l0 l1 l2;by_cases hlt:k<f.nb
    ·have hltz:(k:Int)<(f.nb:Int):=(by omega);obtain⟨bb,off,rfl,hbl,hcell⟩:=HC2.o k (by rw[HNB.o];exact hlt);have n0:=(TW0.o.ak HK.o).cellOf (hcell 0 _ rfl);have n1:=(TW0.o.ak HK.o).cellOf (hcell 1 _ rfl);have n2:=(TW0.o.ak HK.o).cellOf (hcell 2 _ rfl);have n3:=(TW0.o.ak HK.o).cellOf (hcell 3 _ rfl);have n4:=(TW0.o.ak HK.o).cellOf (hcell 4 _ rfl);have n5:=(TW0.o.ak HK.o).cellOf (hcell 5 _ rfl);have n6:=(TW0.o.ak HK.o).cellOf (hcell 6 _ rfl);simp only[Nat.add_zero]at n0;have hyb:=(HF.o.keep (TW0.o.ak HK.o)).block _ (az (l:=f.blocks.2) (k:=k) (by rw[HNB.o];exact hlt));have HBS:=ag (HBv.o.symm.trans (fewBl_at (by rw[HNB.o];exact hlt)));clear hcell HC2 HC0 HC1;generalize hy:f.blocks.2[k]! =y at*;have HY:=ag hy;clear hy;obtain⟨pa,pc,pe,-,-,hpc⟩:=hyb.phis.open_;obtain⟨qa,qc,qe,-,-,hqc⟩:=hyb.insts.open_;have HYB:=ag hyb;rw[pe]at n1;rw[qe]at n2;have HPC:=ag hpc;have HQC:=ag hqc;clear hyb pe qe hpc hqc;generalize hPN:y.phis.2.length=pn at*;generalize hQN:y.insts.2.length=qn at*;have HPN:=ag hPN;have HQN:=ag hQN;clear hPN hQN;generalize hyn:y.name=yn at*;have HYN:=ag hyn;clear hyn;generalize y.kind=yk at*;generalize y.var=yv at*;generalize y.to0=y0 at*;generalize y.to1=y1 at*;clear l0 l1 l2;have bmx:=Blk.new wo 38 #[.string yn,.slice pa pn pc,.slice qa qn qc,.int .i64 yk,.int .i64 yv,.int .i64 y0,.int .i64 y1];have k3:ai wo (wo.alloc (.cells #[.string yn,.slice pa pn pc,.slice qa qn qc,.int .i64 yk,.int .i64 yv,.int .i64 y0,.int .i64 y1] 38)) []:=(ai.refl wo []).alloc _;have Blx:=ag (Bl.o.keep k3 (by simp));have HKx:=ag (HK.o.ak k3);clear k3 Bl HK;have Bl:=Blx;have HK:=HKx;have Bm:=ag bmx;clear bmx Blx HKx;have l0:=Bl.o.cell 0;have l1:=Bl.o.cell 1;have l2:=Bl.o.cell 2;have m0:=Bm.o.cell 0;have m1:=Bm.o.cell 1;have m2:=Bm.o.cell 2;have m3:=Bm.o.cell 3;have m4:=Bm.o.cell 4;have m5:=Bm.o.cell 5;have m6:=Bm.o.cell 6;simp at l0 l1 l2 m0 m1 m2 m3 m4 m5 m6;by_cases hs:(400:Int)<(yn.size:Int)
     ·go_wp2;go_ret;exact⟨ay (HBNN.o _ HVF.o (by rw[HBS.o];exact fewOne_1 (by rw[HYN.o,HPN.o,HQN.o];omega))).symm,(TW0.o.ak HK.o)⟩
     by_cases hp4:(400:Int)<(pn:Int)
     ·go_wp2;go_ret;exact⟨ay (HBNN.o _ HVF.o (by rw[HBS.o];exact fewOne_1 (by rw[HYN.o,HPN.o,HQN.o];omega))).symm,(TW0.o.ak HK.o)⟩
     by_cases hq4:(400:Int)<(qn:Int)
     ·go_wp2;go_ret;exact⟨ay (HBNN.o _ HVF.o (by rw[HBS.o];exact fewOne_1 (by rw[HYN.o,HPN.o,HQN.o];omega))).symm,(TW0.o.ak HK.o)⟩
     go_wp2;have HLIM:=ag (show ¬(400<y.name.size∨400<y.phis.2.length∨400<y.insts.2.length) by rw[HYN.o,HPN.o,HQN.o];omega);clear n0 n1 n2 n3 n4 n5 n6;have TWo:Hid (ai wo (wo.alloc (.cells #[.string yn,.slice pa pn pc,.slice qa qn qc,.int .i64 yk,.int .i64 yv,.int .i64 y0,.int .i64 y1] 38)) []):=(ai.refl wo []).alloc _;clear l0 l1 l2 m0 m1 m2 m3 m4 m5 m6;generalize wo.alloc (.cells #[.string yn,.slice pa pn pc,.slice qa qn qc,.int .i64 yk,.int .i64 yv,.int .i64 y0,.int .i64 y1] 38)=WB at*;have Bl_WB:=Bl;have Bm_WB:=Bm;have TWB:=HK;clear HK;have HK:=ag (ai.refl WB []);have l0:=Bl.o.cell 0;have l1:=Bl.o.cell 1;have l2:=Bl.o.cell 2;have m0:=Bm.o.cell 0;have m1:=Bm.o.cell 1;have m2:=Bm.o.cell 2;have m3:=Bm.o.cell 3;have m4:=Bm.o.cell 4;have m5:=Bm.o.cell 5;have m6:=Bm.o.cell 6;simp at l0 l1 l2 m0 m1 m2 m3 m4 m5 m6;generalize hn1:n+(yn.size+10*(pn+qn))=s1 at*;have HN1:=ag (show n+(y.name.size+10*(y.phis.2.length+y.insts.2.length))=s1 by rw[HYN.o,HPN.o,HQN.o];exact hn1);go_loopw [3,85] (fun s i wr=>∃i1 j1:Nat,i1≤pn∧i= .int .i64 i1∧s= .int .i64 j1∧ai WB wr []∧s1≤j1∧j1≤s1+800*i1∧Hid (Cr (y.phis.2.drop i1) j1=Cr y.phis.2 s1)) (fun _ i _=>pn -(intOf i).toNat)
     case atStart=>exact⟨0,s1,Nat.zero_le _,rfl,by go_num,HK.o,Nat.le_refl _,Nat.le_refl _,(show Hid _ from by show _=_;rw[List.drop_zero])⟩
     case round=>
      obtain⟨i1,j1,hj,rfl,rfl,hr,hm1,hm2,HFV⟩:=hrel;clear l0 l1 l2 m0 m1 m2 m3 m4 m5 m6;clear Bl Bm HK;have HK:=ag hr;have Bl:=ag (Bl_WB.o.keep hr (by simp));have Bm:=ag (Bm_WB.o.keep hr (by simp));clear hr;have l0:=Bl.o.cell 0;have l1:=Bl.o.cell 1;have l2:=Bl.o.cell 2;have m0:=Bm.o.cell 0;have m1:=Bm.o.cell 1;have m2:=Bm.o.cell 2;have m3:=Bm.o.cell 3;have m4:=Bm.o.cell 4;have m5:=Bm.o.cell 5;have m6:=Bm.o.cell 6;simp at l0 l1 l2 m0 m1 m2 m3 m4 m5 m6;by_cases hltj:i1<pn
      ·have hltjz:(i1:Int)<(pn:Int):=(by omega);obtain⟨pb,po,rfl,hpb,hpcell⟩:=HPC.o i1 hltj;have n0:=(TWo.o.ak HK.o).cellOf (hpcell 0 _ rfl);have n1:=(TWo.o.ak HK.o).cellOf (hpcell 1 _ rfl);have n2:=(TWo.o.ak HK.o).cellOf (hpcell 2 _ rfl);simp only[Nat.add_zero]at n0;have hpa:=HYB.o.phi _ (az (l:=y.phis.2) (k:=i1) (by rw[HPN.o];exact hltj));have HPS:=ag ((fewPh_at (l:=y.phis.2) (n:=j1) (by rw[HPN.o];exact hltj)).symm.trans HFV.o);clear hpcell HPC;generalize y.phis.2[i1]! =p at*;obtain⟨u1,v1,e1,-⟩:=bu.open_ hpa.1;obtain⟨u2,v2,e2,-⟩:=bu.open_ hpa.2;rw[e1]at n1;rw[e2]at n2;clear e1 e2;generalize p.args.2.length=pna at*;generalize p.froms.2.length=pnf at*;generalize p.dst=pdst at*;clear hpa;clear l0 l1 l2 m0 m1 m2 m3 m4 m5 m6;have bmx:=Blk.new wr 95 #[.int .i64 pdst,.slice u1 pna v1,.slice u2 pnf v2];have k3:ai wr (wr.alloc (.cells #[.int .i64 pdst,.slice u1 pna v1,.slice u2 pnf v2] 95)) []:=(ai.refl wr []).alloc _;have Blx:=ag (Bl.o.keep k3 (by simp));have Bmx:=ag (Bm.o.keep k3 (by simp));have HKx:=ag (HK.o.ak k3);clear k3 Bl Bm HK;have Bl:=Blx;have Bm:=Bmx;have HK:=HKx;have Bq:=ag bmx;clear bmx Blx Bmx HKx;have l0:=Bl.o.cell 0;have l1:=Bl.o.cell 1;have l2:=Bl.o.cell 2;have m0:=Bm.o.cell 0;have m1:=Bm.o.cell 1;have m2:=Bm.o.cell 2;have m3:=Bm.o.cell 3;have m4:=Bm.o.cell 4;have m5:=Bm.o.cell 5;have m6:=Bm.o.cell 6;have q0:=Bq.o.cell 0;have q1:=Bq.o.cell 1;have q2:=Bq.o.cell 2;simp at l0 l1 l2 m0 m1 m2 m3 m4 m5 m6 q0 q1 q2;by_cases hf4:(4000:Int)<(j1:Int)
       ·go_wp2;go_ret;exact⟨ay (HBNN.o _ HVF.o (by rw[HBS.o];exact fewOne_2 HLIM.o (by rw[HN1.o,←HPS.o,if_pos (by omega)]))).symm,(TW0.o.ak (TWB.o.ak HK.o))⟩
       by_cases hl0:(400:Int)<(pna:Int)
       ·go_wp2;go_ret;exact⟨ay (HBNN.o _ HVF.o (by rw[HBS.o];exact fewOne_2 HLIM.o (by rw[HN1.o,←HPS.o,if_pos (by omega)]))).symm,(TW0.o.ak (TWB.o.ak HK.o))⟩
       by_cases hl1:(400:Int)<(pnf:Int)
       ·go_wp2;go_ret;exact⟨ay (HBNN.o _ HVF.o (by rw[HBS.o];exact fewOne_2 HLIM.o (by rw[HN1.o,←HPS.o,if_pos (by omega)]))).symm,(TW0.o.ak (TWB.o.ak HK.o))⟩
       have HF2:Hid (Cr (y.phis.2.drop (i1+1)) (j1+(pna+pnf))=Cr y.phis.2 s1):=(by have h:=HPS.o;rw[if_neg (by omega)]at h;exact h);go_wp2;go_roundw
       case rel=>exact⟨i1+1,j1+(pna+pnf),by omega,by go_num,by go_num,HK.o,by omega,by omega,HF2⟩
       case measure=>simp[intOf];omega
      ·have hltjz:¬(i1:Int)<(pn:Int):=(by omega);have HPD:Hid (Cr y.phis.2 s1=some j1):=(by have hh:i1=pn:=(by omega);have h:=HFV.o;rw[hh,←HPN.o,fewPh_end]at h;exact h.symm);have hn2:s1≤j1:=(by omega);have hn3:j1≤s1+800*400:=(by omega);clear hltj hm1 hm2 hj HFV;go_wp2;go_loopw [3,116] (fun s i wr=>∃i2 j2:Nat,i2≤qn∧i= .int .i64 i2∧s= .int .i64 j2∧ai WB wr []∧j1≤j2∧j2≤j1+800*i2∧Hid (Bw (y.insts.2.drop i2) j2=Bw y.insts.2 j1)) (fun _ i _=>qn -(intOf i).toNat)
       case atStart=>exact⟨0,j1,Nat.zero_le _,rfl,rfl,HK.o,Nat.le_refl _,Nat.le_refl _,(show Hid _ from by show _=_;rw[List.drop_zero])⟩
       case round=>
        obtain⟨i2,j2,hj,rfl,rfl,hr,hm1,hm2,HFV⟩:=hrel;clear l0 l1 l2 m0 m1 m2 m3 m4 m5 m6;clear Bl Bm HK;have HK:=ag hr;have Bl:=ag (Bl_WB.o.keep hr (by simp));have Bm:=ag (Bm_WB.o.keep hr (by simp));clear hr;have l0:=Bl.o.cell 0;have l1:=Bl.o.cell 1;have l2:=Bl.o.cell 2;have m0:=Bm.o.cell 0;have m1:=Bm.o.cell 1;have m2:=Bm.o.cell 2;have m3:=Bm.o.cell 3;have m4:=Bm.o.cell 4;have m5:=Bm.o.cell 5;have m6:=Bm.o.cell 6;simp at l0 l1 l2 m0 m1 m2 m3 m4 m5 m6;by_cases hltj:i2<qn
        ·have hltjz:(i2:Int)<(qn:Int):=(by omega);obtain⟨pb,po,rfl,hpb,hpcell⟩:=HQC.o i2 hltj;have n0:=(TWo.o.ak HK.o).cellOf (hpcell 0 _ rfl);have n1:=(TWo.o.ak HK.o).cellOf (hpcell 1 _ rfl);have n2:=(TWo.o.ak HK.o).cellOf (hpcell 2 _ rfl);have n3:=(TWo.o.ak HK.o).cellOf (hpcell 3 _ rfl);simp only[Nat.add_zero]at n0;have hpa:=HYB.o.inst _ (az (l:=y.insts.2) (k:=i2) (by rw[HQN.o];exact hltj));have HPS:=ag ((fewIn_at (l:=y.insts.2) (n:=j2) (by rw[HQN.o];exact hltj)).symm.trans HFV.o);clear hpcell HQC;generalize y.insts.2[i2]! =p at*;obtain⟨u1,v1,e1,-⟩:=bu.open_ hpa;rw[e1]at n2;clear e1;generalize p.args.2.length=pna at*;generalize p.op=pop at*;generalize p.dst=pdst at*;generalize p.num=pnum at*;clear hpa;clear l0 l1 l2 m0 m1 m2 m3 m4 m5 m6;have bmx:=Blk.new wr 43 #[.int .i64 pop,.int .i64 pdst,.slice u1 pna v1,.int .i64 pnum];have k3:ai wr (wr.alloc (.cells #[.int .i64 pop,.int .i64 pdst,.slice u1 pna v1,.int .i64 pnum] 43)) []:=(ai.refl wr []).alloc _;have Blx:=ag (Bl.o.keep k3 (by simp));have Bmx:=ag (Bm.o.keep k3 (by simp));have HKx:=ag (HK.o.ak k3);clear k3 Bl Bm HK;have Bl:=Blx;have Bm:=Bmx;have HK:=HKx;have Bq:=ag bmx;clear bmx Blx Bmx HKx;have l0:=Bl.o.cell 0;have l1:=Bl.o.cell 1;have l2:=Bl.o.cell 2;have m0:=Bm.o.cell 0;have m1:=Bm.o.cell 1;have m2:=Bm.o.cell 2;have m3:=Bm.o.cell 3;have m4:=Bm.o.cell 4;have m5:=Bm.o.cell 5;have m6:=Bm.o.cell 6;have q0:=Bq.o.cell 0;have q1:=Bq.o.cell 1;have q2:=Bq.o.cell 2;have q3:=Bq.o.cell 3;simp at l0 l1 l2 m0 m1 m2 m3 m4 m5 m6 q0 q1 q2 q3;by_cases hf4:(4000:Int)<(j2:Int)
         ·go_wp2;go_ret;exact⟨ay (HBNN.o _ HVF.o (by rw[HBS.o];exact fewOne_3 HLIM.o (by rw[HN1.o];exact HPD.o) (by rw[←HPS.o,if_pos (by omega)]))).symm,(TW0.o.ak (TWB.o.ak HK.o))⟩
         by_cases hl0:(400:Int)<(pna:Int)
         ·go_wp2;go_ret;exact⟨ay (HBNN.o _ HVF.o (by rw[HBS.o];exact fewOne_3 HLIM.o (by rw[HN1.o];exact HPD.o) (by rw[←HPS.o,if_pos (by omega)]))).symm,(TW0.o.ak (TWB.o.ak HK.o))⟩
         have HF2:Hid (Bw (y.insts.2.drop (i2+1)) (j2+(pna))=Bw y.insts.2 j1):=(by have h:=HPS.o;rw[if_neg (by omega)]at h;exact h);go_wp2;go_roundw
         case rel=>exact⟨i2+1,j2+(pna),by omega,by go_num,by go_num,HK.o,by omega,by omega,HF2⟩
         case measure=>simp[intOf];omega
        ·have hltjz:¬(i2:Int)<(qn:Int):=(by omega);have HID:Hid (Bw y.insts.2 j1=some j2):=(by have hh:i2=qn:=(by omega);have h:=HFV.o;rw[hh,←HQN.o,fewIn_end]at h;exact h.symm);have HB4:=ag (HBS.o.trans (fewOne_4 HLIM.o (by rw[HN1.o];exact HPD.o) HID.o));by_cases hf4:(4000:Int)<(j2:Int)
         ·go_wp2;go_ret;exact⟨ay (HBNN.o _ HVF.o (by rw[HB4.o,if_pos (by omega)])).symm,(TW0.o.ak (TWB.o.ak HK.o))⟩
         have HB5:Hid (Ag (f.blocks.2.drop (k+1)) j2=Ag f.blocks.2 n9):=(by have h:=HB4.o;rw[if_neg (by omega)]at h;exact h.symm);go_wp2;go_roundw
         case rel=>exact⟨k+1,j2,by omega,by go_num,rfl,(TWB.o.ak HK.o),by omega,HB5⟩
         case measure=>simp[intOf];omega
    ·have hltz:¬(k:Int)<(f.nb:Int):=(by omega);have HBF:Hid (Ag f.blocks.2 n9=some n):=(by have hh:k=f.nb:=(by omega);have h:=HBv.o;rw[hh,←HNB.o,fewBl_end]at h;exact h.symm);go_wp2;go_ret;exact⟨ay (HYES.o _ _ (by omega) HVF.o HBF.o).symm,(TW0.o.ak HK.o)⟩
end Go.Proofs.YtjllbchfojonhaaGreatDoor
