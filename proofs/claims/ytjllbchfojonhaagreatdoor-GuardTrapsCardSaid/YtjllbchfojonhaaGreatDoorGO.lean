/- The guard: made, through; contracts. -/
import Derived.Test.YtjllbchfojonhaaGreatDoorGN
import Derived.Test.YtjllbchfojonhaaGreatDoorShelfG
import Derived.Deep.CutBlock
import Derived.Deep.Cut
import Derived.BigQuiet
set_option linter.unusedVariables false
set_option linter.unusedSimpArgs false
set_option maxRecDepth 100000
set_option maxHeartbeats 200000000
namespace Go.Proofs.YtjllbchfojonhaaGreatDoor
open Go.RowKit Go.Shelf Go.Lib
theorem contains_any (q:jl) (x:Int) (w:World) (h:bu w q):Calls Tryz.prog 105 #[q.1,.int .i64 x] w fun e w'=>e= .returned (.bool (q.2.contains x))∧w=w':=by
 obtain⟨a,cap,e1,h2,h3,h4⟩:=bu.open_ h;rw[e1];rcases h4 with h4|⟨b,off,rfl,hb,hc⟩
 ·have h5:q.2=[]:=List.eq_nil_of_length_eq_zero h4;rw[h5];exact(show Calls Tryz.prog 105 #[.slice a 0 cap,.int .i64 x] w fun e w'=>e= .returned (.bool false)∧w'=w from Any.slices_Contains_int_empty Tryz.laysCont a cap x w).mono fun _ _ h=>⟨h.1,h.2.symm⟩
 ·refine (show Calls Tryz.prog 105 #[.slice (some ⟨b, off, none⟩) q.2.length cap, .int .i64 x] w fun e w' => e = .returned (.bool ((q.2.take q.2.length).contains x)) ∧ w' = w from
   Any.slices_Contains_int Tryz.laysCont b off q.2.length cap q.2 x w (Nat.le_refl _) (by unfold maxLen at h3;omega) (fun j hj=> ?_)).mono fun _ _ h=>⟨by rw[h.1,List.take_length],h.2.symm⟩
  rw[hc j hj,getElem!_pos q.2 j hj,List.getD,List.getElem?_eq_getElem hj];rfl
theorem pu {n i:Nat} {α:Type} [Inhabited α] (g:Nat→α) (h:i<n):((List.range n).map g)[i]! =g i:=by
 rw[getElem!_pos _ i (by simpa using h)];simp
theorem oq {n:Nat} {g h:Nat→Bool} (e:∀i,i<n→g i=h i):(List.range n).map g=(List.range n).map h:=
 List.map_congr_left fun i hi=>e i (List.mem_range.1 hi)
theorem Dt {n:Nat} {l:List Bool} (hl:l.length=n):l=(List.range n).map fun i=>l[i]! :=by
 refine Ca (by simp[hl]) fun i hi=> ?_;rw[pu _ (by simpa using hi)]
theorem set_range {n j:Nat} (g:Nat→Bool) (b:Bool) (hj:j<n):((List.range n).map g).set j b=(List.range n).map fun i=>if i=j then b else g i:=by
 refine Ca (by simp) fun i hi=> ?_;have hi':i<n:=(by simpa using hi);rw[lb_set (by simpa using hj),pu _ hi',pu _ hi']
def Ap (cs:List dn) (v:Int) (l:List Bool) (j:Nat):List Bool:=(List.range cs.length).map fun i=>if i<j then(l[i]! && !(cs[i]!.args.2.contains v))else l[i]!
def madeL (cs:List dn) (v:Int) (l:List Bool):List Bool:=(List.range cs.length).map fun i=>l[i]! && !(cs[i]!.args.2.contains v)
theorem madeTo_zero {cs:List dn} {v:Int} {l:List Bool} (hl:l.length=cs.length):Ap cs v l 0=l:=by
 exact(oq fun i hi=>if_neg (Nat.not_lt_zero _)).trans (Dt hl).symm
theorem madeTo_all (cs:List dn) (v:Int) (l:List Bool):Ap cs v l cs.length=madeL cs v l:=oq fun i hi=>if_pos hi
theorem madeTo_at {cs:List dn} {v:Int} {l:List Bool} {j:Nat} (hj:j<cs.length):(Ap cs v l j)[j]! =l[j]! :=by
 unfold Ap;rw[pu _ hj,if_neg (Nat.lt_irrefl _)]
theorem madeTo_len (cs:List dn) (v:Int) (l:List Bool) (j:Nat):(Ap cs v l j).length=cs.length:=by simp[Ap]
theorem madeTo_yes {cs:List dn} {v:Int} {l:List Bool} {j:Nat} (hj:j<cs.length) (h:cs[j]!.args.2.contains v=true):Ap cs v l (j+1)=(Ap cs v l j).set j false:=by
 unfold Ap;rw[set_range _ _ hj];refine oq fun i hi=> ?_;by_cases e:i=j
 ·subst e;rw[if_pos (Nat.lt_succ_self _),if_pos rfl,h];simp
 ·rw[if_neg e];by_cases h2:i<j
  ·rw[if_pos h2,if_pos (by omega)]
  ·rw[if_neg h2,if_neg (by omega)]
theorem madeTo_no {cs:List dn} {v:Int} {l:List Bool} {j:Nat} (hj:j<cs.length) (h:l[j]! =false∨cs[j]!.args.2.contains v=false):Ap cs v l (j+1)=Ap cs v l j:=by
 unfold Ap;refine oq fun i hi=> ?_;by_cases e:i=j
 ·subst e;rw[if_pos (Nat.lt_succ_self _),if_neg (Nat.lt_irrefl _)];rcases h with h|h
  ·rw[h];rfl
  ·rw[h];simp
 ·by_cases h2:i<j
  ·rw[if_pos h2,if_pos (by omega)]
  ·rw[if_neg h2,if_neg (by omega)]
theorem Ce {l:List Bool} {k:Nat} (hk:k<l.length):(wm l)[k]? =some (.bool l[k]!):=by
 unfold wm;rw[List.getElem?_map,List.getElem?_eq_getElem hk,getElem!_pos l k hk];rfl
theorem Dw (l:List Bool) (k:Nat) (b:Bool):(wm l).set k (.bool b)=wm (l.set k b):=by unfold wm;rw[List.map_set]
theorem bitV_len (l:List Bool):(wm l).length=l.length:=by simp[wm]
theorem made_any (cs:List dn) (v:Int) (L:Nat) (lv tv iv x0 x1 x2 s:Value) (l:List Bool) (W w:World) (hb:Blk W L 89 #[x0,x1,x2,lv,tv,iv]) (hq:Row W 2 lv (cs.map dn.cells)) (hla:∀d∈cs,bu W d.args) (hk:ai W w [])
  (hs:w.ownsRow W.heap.size 4 1 s cs.length (wm l)) (hl:l.length=cs.length):
  Calls Tryz.prog 66 #[.pointer (some ⟨L,0,none⟩),s,.int .i64 v] w fun e w'=>e= .returned (.tuple #[])∧w'.ownsRow W.heap.size 4 1 s cs.length (wm (madeL cs v l))∧ai W w' []:=by
 obtain⟨b,cb,e2,hlc,hm,hc⟩:=hq.open_;subst e2;have HF3:Hid (W.cell? ⟨L,3,none⟩=some (.slice b cs.length cb)):=ag (by have h9:=hb.cell 3;simpa using h9);have HC:=ag hc;have HLA:=ag hla;have HKW:=ag hk;have HS:=ag hs;have M0:=ag (madeTo_zero (cs:=cs) (v:=v) hl);have MA:=ag (madeTo_all cs v l);have MT:=ag (fun j (hj:j<cs.length)=>madeTo_at (v:=v) (l:=l) hj);have MY:=ag (fun j (hj:j<cs.length)=>madeTo_yes (v:=v) (l:=l) hj);have MN:=ag (fun j (hj:j<cs.length)=>madeTo_no (v:=v) (l:=l) hj);have ML:=ag (madeTo_len cs v l);clear hb hq hla hk hs hc;obtain⟨n,hn⟩:∃n,cs.length=n:=⟨_,rfl⟩;have HN:=ag hn;rw[hn]at HF3 HS MA MT MY MN ⊢;have hnI:(n:Int)≤9223372036854775807:=(by unfold maxLen at hm;omega);clear hn hl;have f3:=HKW.o.cellOf HF3.o;generalize madeL cs v l=R at*;go_enter Tryz.func66,Tryz.ntmps66;go_wp2;go_loopw [13] (fun i' wx=>∃j:Nat,j≤n∧i'= .int .i64 j∧wx.ownsRow W.heap.size 4 1 s n (wm (Ap cs v l j))∧ai W wx []) (fun i' _=>n -(intOf i').toNat)
 case atStart=>exact⟨0,Nat.zero_le _,rfl,by rw[M0.o];exact HS.o,HKW.o⟩
 case round=>
  obtain⟨j,hj,rfl,hO,hr⟩:=hrel;have HO:=ag hO;have HK:=ag hr;clear hO hr HS f3;by_cases hlt:j<n
  ·have hltz:(j:Int)<(n:Int):=(by omega);obtain⟨cb1,co,rfl,hb1,hcell⟩:=HC.o j (by first |exact hlt|(rw[HN.o];exact hlt));have f3:=HK.o.cellOf HF3.o;have n0:=HK.o.cellOf (hcell 0 _ rfl);have n1:=HK.o.cellOf (hcell 1 _ rfl);simp only[Nat.add_zero]at n0;clear hcell HC;have hla1:=HLA.o _ (az (l:=cs) (k:=j) (by rw[HN.o];exact hlt));have MTj:=ag (MT.o j hlt);have MYj:=ag (MY.o j hlt);have MNj:=ag (MN.o j hlt);obtain⟨ua,va1,e1,-,-,-⟩:=bu.open_ hla1;rw[e1]at n1;have CC:=ag (fun W2 (h:bu W2 cs[j]!.args)=>contains_any cs[j]!.args v W2 h);rw[e1]at CC;have HLA1:=ag hla1;clear e1 hla1 MT MY MN;generalize cs[j]! =cj at*;obtain⟨g,sc,e3,hg,hgo,-,-,-,-,-⟩:=zl HO.o (by omega);subst e3;have HG:=ag hg;have HGO:=ag hgo;clear hg hgo;go_upto_region 3 with(fail)
   clear n0 n1 f3;have k3:ai wr (wr.alloc (.cells #[.int .i64 cj.op,.slice ua cj.args.2.length va1] 49)) []:=(ai.refl wr []).alloc _;have bx:=Blk.new wr 49 #[.int .i64 cj.op,.slice ua cj.args.2.length va1];have HO1:=ag (au HO.o k3 (by simp));have HK1:=ag (HK.o.ak k3);generalize(wr.alloc (.cells #[.int .i64 cj.op,.slice ua cj.args.2.length va1] 49))=W4 at*;generalize wr.heap.size=bx0 at*;clear k3;have x0:=bx.cell 0;have x1:=bx.cell 1;simp at x0 x1;have HLA2:=ag (Row.keep (show bu W cj.args from HLA1.o) HK1.o);obtain⟨y0,y1⟩:=jw HO1.o HGO.o (i:=j) (by omega);rw[Ce (by rw[ML.o,HN.o];exact hlt),MTj.o]at y0;generalize cj.args.2.contains v=ct at*;generalize cj.args.2.length=cn at*;generalize cj.op=cop at*;generalize hlj:l[j]! =lj at*;have HLJ:=ag hlj;clear hlj bx;cases lj
   ·go_wp2;go_roundw
    case rel=>exact⟨j+1,by omega,by go_num,by rw[MNj.o (.inl (by first |exact HLJ.o|rfl))];exact HO1.o,HK1.o⟩
    case measure=>simp[intOf];omega
   ·cases ct
    ·go_wp2_with (first |(go_at_call 105;refine(CC.o _ HLA2.o).mono ?_;rintro e w3 ⟨rfl,rfl⟩))
     go_roundw
     case rel=>exact⟨j+1,by omega,by go_num,by rw[MNj.o (.inr (by first |rfl|trivial))];exact HO1.o,HK1.o⟩
     case measure=>simp[intOf];omega
    ·go_wp2_with (first |(go_at_call 105;refine(CC.o _ HLA2.o).mono ?_;rintro e w3 ⟨rfl,rfl⟩))
     go_roundw
     case rel=>exact⟨j+1,by omega,by go_num,by rw[MYj.o (by first |rfl|trivial),←Dw];exact yh HO1.o HGO.o j _,HK1.o.setCell (.inr HG.o) _⟩
     case measure=>simp[intOf];omega
  ·have hltz:¬(j:Int)<(n:Int):=(by omega);obtain rfl:j=n:=by omega
   go_wp2;exact bodyPost_end (v:= .tuple #[]) (by have h:Tryz.f66.results=#[]:=(by kernel_rfl);simp[results,h]) rfl ⟨rfl,by rw[←MA.o];exact HO.o,HK.o⟩
structure Dx (cs:List dn) (y:df):Prop where
 uniq:∀c:dn,∀i j,i<cs.length→j<cs.length→ko c cs[i]! =true→ko c cs[j]! =true→i=j
 chk:∀c∈cs,qx c.op=true
 mem:∀x∈y.insts.2,qx x.op=true→cs.any (ko x.chk)=true
def Al (cs:List dn) (y:df) (l:List Bool) (j:Nat):List Bool:=(List.range cs.length).map fun i=>(y.phis.2.take j).foldl (phiG cs[i]!.args.2) l[i]!
def nk (cs:List dn) (y:df) (l:List Bool) (j:Nat):List Bool:=(List.range cs.length).map fun i=>(y.insts.2.take j).foldl (instG cs[i]!.op cs[i]!.args.2) l[i]!
def pm (cs:List dn) (y:df) (pl:Nat) (l:List Bool):List Bool:=(List.range cs.length).map fun i=>lm y cs[i]!.op cs[i]!.args.2 pl l[i]!
section
variable {cs:List dn} {y:df} {l:List Bool}
theorem phisTo_zero (hl:l.length=cs.length):Al cs y l 0=l:=by
 exact(oq fun i hi=>by simp).trans (Dt hl).symm
theorem phisTo_step {j:Nat} (hj:j<y.phis.2.length):Al cs y l (j+1)=madeL cs y.phis.2[j]!.dst (Al cs y l j):=by
 unfold Al madeL;refine oq fun i hi=> ?_;rw[fold_take _ _ _ _ hj,pu _ hi];unfold phiG;split
 ·rename_i h;rw[h];simp
 ·rename_i h;rw[Bool.not_eq_true]at h;rw[h];simp
theorem instsTo_zero (hl:l.length=cs.length):nk cs y l 0=l:=by
 exact(oq fun i hi=>by simp).trans (Dt hl).symm
theorem phisTo_len (j:Nat):(Al cs y l j).length=cs.length:=by simp[Al]
theorem instsTo_len (j:Nat):(nk cs y l j).length=cs.length:=by simp[nk]
theorem throughL_len (pl:Nat):(pm cs y pl l).length=cs.length:=by simp[pm]
theorem throughL_eq (pl:Nat):pm cs y pl l=nk cs y (Al cs y l y.phis.2.length) pl:=by
 unfold pm nk;refine oq fun i hi=> ?_;unfold lm Al;rw[pu _ hi,List.take_length]
def chkL (cs:List dn) (x:cu) (l:List Bool):List Bool:=if qx x.op=true then(List.range cs.length).map fun i=>ko x.chk cs[i]! ||l[i]! else l
theorem chkL_set (h:Dx cs y) {x:cu} {i:Nat} (hl:l.length=cs.length) (hi:i<cs.length) (hx:qx x.op=true) (hs:ko x.chk cs[i]! =true):chkL cs x l=l.set i true:=by
 unfold chkL;rw[if_pos hx]
 conv=>rhs;rw[Dt hl]
 rw[set_range _ _ hi];refine oq fun k hk=> ?_;by_cases e:k=i
 ·subst e;rw[if_pos rfl,hs];rfl
 ·rw[if_neg e];cases hc:ko x.chk cs[k]! with
  |false=>rfl
  |true=>exact absurd (h.uniq x.chk k i hk hi hc hs) e
theorem instsTo_step (h:Dx cs y) {j:Nat} (hj:j<y.insts.2.length) (hl:l.length=cs.length):
  nk cs y l (j+1)=if 0≤y.insts.2[j]!.dst then madeL cs y.insts.2[j]!.dst (chkL cs y.insts.2[j]! (nk cs y l j))else chkL cs y.insts.2[j]! (nk cs y l j):=by
 have key:∀i,i<cs.length→(chkL cs y.insts.2[j]! (nk cs y l j))[i]! =(isB y.insts.2[j]! cs[i]!.op cs[i]!.args.2||(nk cs y l j)[i]!):=fun i hi=>by
  unfold chkL;by_cases hx:qx y.insts.2[j]!.op=true
  ·rw[if_pos hx,pu _ hi];rfl
  ·rw[if_neg hx];have:isB y.insts.2[j]! cs[i]!.op cs[i]!.args.2=false:=Bool.eq_false_iff.2 fun e=>hx (by rw[(isB_iff.1 e).1];exact h.chk _ (az hi));rw[this,Bool.false_or]
 have hk:(chkL cs y.insts.2[j]! (nk cs y l j)).length=cs.length:=by
  unfold chkL;split
  ·simp
  ·exact instsTo_len _
 by_cases hd:0≤y.insts.2[j]!.dst
 ·rw[if_pos hd];unfold madeL
  conv=>lhs;unfold nk
  refine oq fun i hi=> ?_;rw[key i hi,fold_take _ _ _ _ hj]
  conv=>rhs;unfold nk
  rw[pu _ hi];unfold instG;rw[decide_eq_true hd,Bool.true_and];split
  ·rename_i h2;rw[h2];simp
  ·rename_i h2;rw[Bool.not_eq_true]at h2;rw[h2];simp
 ·rw[if_neg hd,Dt hk]
  conv=>lhs;unfold nk
  refine oq fun i hi=> ?_;rw[key i hi,fold_take _ _ _ _ hj]
  conv=>rhs;unfold nk
  rw[pu _ hi];unfold instG;rw[decide_eq_false hd,Bool.false_and,if_neg (by simp)]
theorem idx_uniq (h:Dx cs y) {c:dn} (ha:cs.any (ko c)=true):∃i,i<cs.length∧ko c cs[i]! =true∧Lib.idxBy (fun _ y=>ko c y) cs default=(i:Nat):=by
 obtain⟨d,hd,hs⟩:=List.any_eq_true.1 ha;obtain⟨i,hi,rfl⟩:=List.mem_iff_getElem.1 hd;have hs2:ko c cs[i]! =true:=(by rw[getElem!_pos cs i hi];exact hs);refine⟨i,hi,hs2, ?_⟩;have h9:=Lib.idxBy_hit (fun _ y=>ko c y) cs cs.length i default hi (Nat.le_refl _) hs2 (fun j hj=>Bool.eq_false_iff.2 fun e=>by have:=h.uniq c j i (by omega) hi e hs2;omega)
 rwa [List.take_length]at h9
end
theorem through_any (cs:List dn) (y:df) (pl L:Nat) (lv tv iv x0 x1 x2 s:Value) (l:List Bool) (w:World) (hb:Blk w L 89 #[x0,x1,x2,lv,tv,iv]) (hq:Row w 2 lv (cs.map dn.cells)) (hla:∀d∈cs,bu w d.args)
  (hs:BitsAt w s l) (hl:l.length=cs.length) (hn:cs.length≤100000) (hy:Cf w y) (hpl:pl≤y.insts.2.length) (hbd:y.phis.2.length≤100000∧y.insts.2.length≤100000) (hok:Dx cs y):
  Calls Tryz.prog 35 #[.pointer (some ⟨L,0,none⟩),s,.agg y.cells.toArray,.int .i64 (pl:Nat)] w fun e w'=>(∃v,e= .returned v∧w'.ownsRow w.heap.size 4 1 v cs.length (wm (pm cs y pl l)))∧ai w w' []:=by
 obtain⟨pa,pc,pe,-,-,hpc⟩:=hy.phis.open_;obtain⟨qa,qc,qe,hql,hqm,hqc⟩:=hy.insts.open_;rw[show y.cells.toArray=#[.string y.name,.slice pa y.phis.2.length pc,.slice qa y.insts.2.length qc,.int .i64 y.kind,.int .i64 y.var,.int .i64 y.to0,.int .i64 y.to1] by unfold df.cells;rw[pe,qe]];have HYB:=ag hy;have HPC:=ag hpc;have HQC:=ag hqc;obtain⟨hb1,hb2⟩:=hbd;have CM:=ag (fun(v:Int) (s':Value) (l':List Bool) (W w':World) (hW:ai w W []) hk hs' hl'=>made_any cs v L lv tv iv x0 x1 x2 s' l' W w' (hb.keep hW (by simp)) (hq.keep hW) (fun d hd=>Row.keep (hla d hd) hW) hk hs' hl');have CN:=ag (fun(c:dn) (W:World) (hW:ai w W []) hc=>number_any c L lv tv iv x0 x1 x2 cs W (hb.keep hW (by simp)) hc (hq.keep hW) (fun d hd=>Row.keep (hla d hd) hW));have CCl:=ag (fun(W:World) (hW:ai w W [])=>clone_bits s l W (Row.keep hs hW) (by omega));have PZ:=ag (phisTo_zero (y:=y) hl);have PS:=ag (fun j (hj:j<y.phis.2.length)=>phisTo_step (cs:=cs) (l:=l) hj);have PL:=ag (fun j=>phisTo_len (cs:=cs) (y:=y) (l:=l) j);have IZ:=ag (instsTo_zero (y:=y) (PL.o y.phis.2.length));have IS:=ag (fun j (hj:j<y.insts.2.length)=>instsTo_step hok hj (PL.o y.phis.2.length));have IL:=ag (fun j=>instsTo_len (cs:=cs) (y:=y) (l:=Al cs y l y.phis.2.length) j);have TE:=ag (throughL_eq (cs:=cs) (y:=y) (l:=l) pl);have HOK:=ag hok;have HL:=ag hl;rw[hl]at CCl;generalize pm cs y pl l=R at*;obtain⟨n,hn2⟩:∃n,cs.length=n:=⟨_,rfl⟩;have HN:=ag hn2;rw[hn2]at CM CCl hn ⊢;clear hn2 hy hpc hqc hs hb hq hla hok pe qe hl;generalize hpn:y.phis.2.length=pn at*;have HPN:=ag hpn;generalize hqn:y.insts.2.length=qn at*;have HQN:=ag hqn;clear hpn hqn;obtain⟨HK,Bl⟩:=Cc w 38 #[.string y.name,.slice pa pn pc,.slice qa qn qc,.int .i64 y.kind,.int .i64 y.var,.int .i64 y.to0,.int .i64 y.to1];obtain⟨l0,l1,l2,l3,l4,l5,l6⟩:=Bl.o.c7;simp at l0 l1 l2 l3 l4 l5 l6;go_enter Tryz.func35,Tryz.ntmps35;go_upto_region 1 with(fail)
 clear l0 l1 l2 l3 l4 l5 l6;generalize(w.alloc (.cells #[.string y.name,.slice pa pn pc,.slice qa qn qc,.int .i64 y.kind,.int .i64 y.var,.int .i64 y.to0,.int .i64 y.to1] 38))=W0 at*;have Bl_W0:=Bl;have TW0:=HK;clear HK;have HK:=ag (ai.refl W0 []);obtain⟨l0,l1,l2,l3,l4,l5,l6⟩:=Bl.o.c7;simp at l0 l1 l2 l3 l4 l5 l6;go_upto_region 2 with(first |(go_at_call 65;refine(CCl.o _ TW0.o).mono ?_;rintro e w3 ⟨⟨sv,rfl,hown⟩,k3⟩;have OS:=ag hown;clear hown;clear l0 l1 l2 l3 l4 l5 l6;replace Bl:=Bl.kb k3;replace HK:=HK.kt k3;obtain⟨l0,l1,l2,l3,l4,l5,l6⟩:=Bl.o.c7;simp at l0 l1 l2 l3 l4 l5 l6;clear k3))
 go_wp2;go_loopw [18] (fun i' wx=>∃j:Nat,j≤pn∧i'= .int .i64 j∧wx.ownsRow W0.heap.size 4 1 sv n (wm (Al cs y l j))∧ai W0 wx []) (fun i' _=>pn -(intOf i').toNat)
 case atStart=>exact⟨0,Nat.zero_le _,rfl,by rw[PZ.o];exact OS.o,HK.o⟩
 case round=>
  obtain⟨j,hj,rfl,hO,hr⟩:=hrel;clear OS;clear l0 l1 l2 l3 l4 l5 l6;clear Bl HK;have HK:=ag hr;have Bl:=ag (Bl_W0.o.keep hr (by simp));clear hr;obtain⟨l0,l1,l2,l3,l4,l5,l6⟩:=Bl.o.c7;simp at l0 l1 l2 l3 l4 l5 l6;have OS:=ag hO;clear hO;by_cases hlt:j<pn
  ·have hltz:(j:Int)<(pn:Int):=(by omega);obtain⟨pb,po,rfl,hpb,hcell⟩:=HPC.o j (by first |exact hlt|(rw[HPN.o];exact hlt));have PSj:=ag (PS.o j (by first |exact hlt|(rw[HPN.o];exact hlt)));have hpa:=HYB.o.phi _ (az (l:=y.phis.2) (k:=j) (by rw[HPN.o];exact hlt));obtain⟨ua,va1,e1,-,-,-⟩:=bu.open_ hpa.1;obtain⟨ub,va2,e2,-,-,-⟩:=bu.open_ hpa.2;have n0:=(TW0.o.ak HK.o).cellOf (hcell 0 _ rfl);have n1:=(TW0.o.ak HK.o).cellOf (hcell 1 _ rfl);have n2:=(TW0.o.ak HK.o).cellOf (hcell 2 _ rfl);simp only[Nat.add_zero]at n0;rw[e1]at n1;rw[e2]at n2;clear e1 e2 hpa hcell HPC;generalize y.phis.2[j]!.dst=pd at*;generalize y.phis.2[j]!.args.2.length=pal at*;generalize y.phis.2[j]!.froms.2.length=pfl at*;go_upto_region 5 with(fail)
   clear n0 n1 n2;clear l0 l1 l2 l3 l4 l5 l6;have k3:ai wr (wr.alloc (.cells #[.int .i64 pd,.slice ua pal va1,.slice ub pfl va2] 95)) []:=(ai.refl wr []).alloc _;have hbx:=Blk.new wr 95 #[.int .i64 pd,.slice ua pal va1,.slice ub pfl va2];replace OS:=ag (au OS.o k3 (by simp));replace HK:=HK.kt k3;replace Bl:=Bl.kb k3;generalize wr.alloc (.cells #[.int .i64 pd,.slice ua pal va1,.slice ub pfl va2] 95)=W4 at*;generalize wr.heap.size=bx0 at*;clear k3;have z0:=hbx.cell 0;simp at z0;obtain⟨l0,l1,l2,l3,l4,l5,l6⟩:=Bl.o.c7;simp at l0 l1 l2 l3 l4 l5 l6;go_wp2_with (first |(go_at_call 66;refine(CM.o pd sv (Al cs y l j) W0 _ TW0.o HK.o OS.o (by rw[PL.o,HN.o])).mono ?_;rintro e w3 ⟨rfl,hO3,k3⟩))
   go_roundw
   case rel=>exact⟨j+1,by omega,by go_num,by rw[PSj.o];exact hO3,k3⟩
   case measure=>simp[intOf];omega
  ·have hltz:¬(j:Int)<(pn:Int):=(by omega);obtain rfl:j=pn:=by omega
   have HZ:=ag (show wr.ownsRow W0.heap.size 4 1 sv n (wm (nk cs y (Al cs y l j) 0)) by rw[IZ.o];exact OS.o);clear OS IZ PZ PS HPC CCl;generalize Al cs y l j=lz at*;have OS:=HZ;clear HZ;have hplz:(pl:Int)≤(qc:Int):=(by omega);have hadd:(if qc=0 then qa else Option.map (fun x=>x.add 0) qa)=qa:=(by split;rfl;(cases qa;rfl;rfl));go_wp2;obtain⟨W1,hW1⟩:∃W1:World,W1=wr:=⟨_,rfl⟩;subst hW1;go_loopw [33] (fun i' wx=>∃k:Nat,k≤pl∧i'= .int .i64 k∧wx.ownsRow W0.heap.size 4 1 sv n (wm (nk cs y lz k))∧ai W0 wx []) (fun i' _=>pl -(intOf i').toNat)
   case atStart=>exact⟨0,Nat.zero_le _,rfl,OS.o,HK.o⟩
   case round=>
    obtain⟨k,hk,rfl,hO,hr⟩:=hrel;clear OS;clear l0 l1 l2 l3 l4 l5 l6;clear Bl HK;have HK:=ag hr;have Bl:=ag (Bl_W0.o.keep hr (by simp));clear hr;obtain⟨l0,l1,l2,l3,l4,l5,l6⟩:=Bl.o.c7;simp at l0 l1 l2 l3 l4 l5 l6;have OS:=ag hO;clear hO;by_cases hlk:k<pl
    ·have hlkz:(k:Int)<(pl:Int):=(by omega);have hkq:(k:Int)<(qn:Int):=(by omega);obtain⟨ib,io,rfl,hib,hcell⟩:=HQC.o k (by first |omega|(rw[HQN.o];omega));have ISk:=ag (IS.o k (by first |omega|(rw[HQN.o];omega)));have hxm:=az (l:=y.insts.2) (k:=k) (by rw[HQN.o];omega);have hxa:=HYB.o.inst _ hxm;have HXM:=ag (HOK.o.mem _ hxm);have n0:=(TW0.o.ak HK.o).cellOf (hcell 0 _ rfl);have n1:=(TW0.o.ak HK.o).cellOf (hcell 1 _ rfl);have n2:=(TW0.o.ak HK.o).cellOf (hcell 2 _ rfl);have n3:=(TW0.o.ak HK.o).cellOf (hcell 3 _ rfl);obtain⟨ua,va1,e1,-,-,-⟩:=bu.open_ hxa;simp only[Nat.add_zero]at n0;rw[e1]at n2;have HXA:=ag (show bu w y.insts.2[k]!.args from hxa);have CNx:=ag (fun(W:World) (hW:ai w W [])=>CN.o y.insts.2[k]!.chk W hW (Row.keep (show bu w y.insts.2[k]!.args from HXA.o) hW));have CNy:Hid (∀(W:World),ai w W []→Calls Tryz.prog 68 #[.pointer (some ⟨L,0,none⟩),.agg #[.int .i64 y.insts.2[k]!.op,.slice ua y.insts.2[k]!.args.2.length va1]] W fun e w'=>e= .returned (.int .i64 (Lib.idxBy (fun _ z=>ko y.insts.2[k]!.chk z) cs default))∧ai W w' []):=(by rw[←e1];exact CNx.o);clear CNx e1 hcell HQC hxa hxm IS;generalize hxx:y.insts.2[k]! =x at*;clear hxx;have HCK:=ag (fun i (hi:i<cs.length) (h1:qx x.op=true) (h2:ko x.chk cs[i]! =true)=>chkL_set HOK.o (IL.o k) hi h1 h2);go_upto_region 10 with(fail)
     clear n0 n1 n2 n3;replace OS:=ag (au OS.o ((ai.refl wr []).alloc (.cells #[.int .i64 x.op,.int .i64 x.dst,.slice ua x.args.2.length va1,.int .i64 x.num] 43)) (by simp));clear l0 l1 l2 l3 l4 l5 l6;have bmx:=Blk.new wr 43 #[.int .i64 x.op,.int .i64 x.dst,.slice ua x.args.2.length va1,.int .i64 x.num];have k3:ai wr (wr.alloc (.cells #[.int .i64 x.op,.int .i64 x.dst,.slice ua x.args.2.length va1,.int .i64 x.num] 43)) []:=(ai.refl wr []).alloc _;replace Bl:=Bl.kb k3;replace HK:=HK.kt k3;have Bx:=ag bmx;clear k3 bmx;obtain⟨l0,l1,l2,l3,l4,l5,l6⟩:=Bl.o.c7;obtain⟨x0,x1,x2,x3⟩:=Bx.o.c4;simp at l0 l1 l2 l3 l4 l5 l6 x0 x1 x2 x3;generalize hWX:(wr.alloc (.cells #[.int .i64 x.op,.int .i64 x.dst,.slice ua x.args.2.length va1,.int .i64 x.num] 43))=WX at*;clear hWX;clear l0 l1 l2 l3 l4 l5 l6 x0 x1 x2 x3;generalize x.args.2.length=xal at*;generalize hxd:x.dst=xd at*;have HXD:=ag hxd;clear hxd;obtain⟨l0,l1,l2,l3,l4,l5,l6⟩:=Bl.o.c7;obtain⟨x0,x1,x2,x3⟩:=Bx.o.c4;simp at l0 l1 l2 l3 l4 l5 l6 x0 x1 x2 x3;cases hck:qx x.op with
     |false=>
      have HLL:=ag (show(chkL cs x (nk cs y lz k)).length=cs.length by unfold chkL;rw[hck,if_neg (by simp)];exact IL.o k);replace OS:=ag (show WX.ownsRow W0.heap.size 4 1 sv n (wm (chkL cs x (nk cs y lz k))) by unfold chkL;rw[hck,if_neg (by simp)];exact OS.o);have HCB:=ag hck;have CK:=ag (Du x.op);rw[hck]at CK;clear hck HCK CNy HXM;by_cases hd0:0≤xd
      ·go_wp2_with (first |(go_at_call 66;refine(CM.o xd _ (chkL cs x (nk cs y lz k)) W0 _ TW0.o HK.o OS.o (by rw[HLL.o,HN.o])).mono ?_;rintro e w4 ⟨rfl,hO3,k4⟩)|(go_at_call 67;refine(CK.o _).mono ?_;rintro e w3 ⟨rfl,rfl⟩))
       go_roundw
       case rel=>exact⟨k+1,by omega,by go_num,by rw[ISk.o,if_pos hd0];exact hO3,k4⟩
       case measure=>simp[intOf];omega
      ·go_wp2_with (first |fail|(go_at_call 67;refine(CK.o _).mono ?_;rintro e w3 ⟨rfl,rfl⟩))
       go_roundw
       case rel=>exact⟨k+1,by omega,by go_num,by rw[ISk.o,if_neg (by omega)];exact OS.o,HK.o⟩
       case measure=>simp[intOf];omega
     |true=>
      obtain⟨i0,hi0,hs0,hid⟩:=idx_uniq HOK.o (HXM.o hck);have HLL:=ag (show(chkL cs x (nk cs y lz k)).length=cs.length by unfold chkL;rw[hck,if_pos rfl];simp);have HSE:=ag (HCK.o i0 hi0 hck hs0);have CK:=ag (Du x.op);rw[hck]at CK;rw[hid]at CNy;have hi0n:i0<n:=(by have h9:=HN.o;omega);have hi0z:(i0:Int)<(n:Int):=(by omega);clear hck HCK HXM hs0 hid hi0;obtain⟨g,sc,e3,hg,hgo,-,-,-,-,-⟩:=zl OS.o (by omega);subst e3;have HG:=ag hg;have HGO:=ag hgo;clear hg hgo;go_upto_region 11 with(first |(go_at_call 67;refine(CK.o _).mono ?_;rintro e w3 ⟨rfl,rfl⟩))
      obtain⟨q0,q1⟩:=jw OS.o HGO.o (i:=i0) (by omega);clear q0 q1;go_upto_region 12 with(first |(go_at_call 68;refine(CNy.o _ (TW0.o.ak HK.o)).mono ?_;rintro e w3 ⟨rfl,k3⟩;replace OS:=ag (au OS.o k3 (by simp));clear l0 l1 l2 l3 l4 l5 l6 x0 x1 x2 x3;replace Bl:=Bl.kb k3;replace Bx:=Bx.kb k3;replace HK:=HK.kt k3;obtain⟨l0,l1,l2,l3,l4,l5,l6⟩:=Bl.o.c7;obtain⟨x0,x1,x2,x3⟩:=Bx.o.c4;simp at l0 l1 l2 l3 l4 l5 l6 x0 x1 x2 x3;clear k3;obtain⟨q0,q1⟩:=jw OS.o HGO.o (i:=i0) (by omega);rw[Ce (by rw[IL.o,HN.o];exact hi0n)]at q0))
      clear q0 q1;clear l0 l1 l2 l3 l4 l5 l6 x0 x1 x2 x3;have k4:ai w3 (w3.setCell ⟨g,i0,none⟩ (.bool true)) [g]:=(ai.refl w3 _).setCell (.inl (by simp)) _;have HLTg:=ag (show ∀b,b<W0.heap.size→b≠g from fun b hb e=>by have h9:=HG.o;omega);have hbl:=Bl_W0.o.keep (HK.o.setCell (w':=w3) (p:=⟨g,i0,none⟩) (.inr HG.o) (.bool true)) (by simp);have hkk:=HK.o.setCell (p:=⟨g,i0,none⟩) (.inr HG.o) (.bool true);have hos:=yh OS.o HGO.o i0 (.bool true);have hgx:(wr.heap.size)≠g:=fun e=>own_ne OS.o Bx.o (by decide) (by rw[HGO.o,e]);have hbx2:=Bx.o.keep k4 (by simp;exact hgx);rw[Dw,←HSE.o]at hos;clear k4 Bl Bx HK OS;generalize(w3.setCell ⟨g,i0,none⟩ (.bool true))=W9 at*;have Bl:=ag hbl;have HK:=ag hkk;have OS:=ag hos;have Bx:=ag hbx2;clear hbl hkk hos hbx2;obtain⟨l0,l1,l2,l3,l4,l5,l6⟩:=Bl.o.c7;obtain⟨x0,x1,x2,x3⟩:=Bx.o.c4;simp at l0 l1 l2 l3 l4 l5 l6 x0 x1 x2 x3;by_cases hd0:0≤xd
      ·go_wp2_with (first |(go_at_call 66;refine(CM.o xd _ (chkL cs x (nk cs y lz k)) W0 _ TW0.o HK.o OS.o (by rw[HLL.o,HN.o])).mono ?_;rintro e w4 ⟨rfl,hO3,k4⟩))
       go_roundw
       case rel=>exact⟨k+1,by omega,by go_num,by rw[ISk.o,if_pos hd0];exact hO3,k4⟩
       case measure=>simp[intOf];omega
      ·go_wp2_with (first |fail)
       go_roundw
       case rel=>exact⟨k+1,by omega,by go_num,by rw[ISk.o,if_neg (by omega)];exact OS.o,HK.o⟩
       case measure=>simp[intOf];omega
    ·have hlkz:¬(k:Int)<(pl:Int):=(by omega);obtain rfl:k=pl:=by omega
     go_wp2;go_ret;exact⟨⟨_,rfl,by rw[TE.o];exact dm OS.o TW0.o.size⟩,(TW0.o.ak HK.o)⟩
end Go.Proofs.YtjllbchfojonhaaGreatDoor
