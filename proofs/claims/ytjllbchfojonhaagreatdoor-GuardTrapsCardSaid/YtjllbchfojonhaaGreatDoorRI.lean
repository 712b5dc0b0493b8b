/- The beginning of a run; contract. -/
import Derived.Test.YtjllbchfojonhaaGreatDoorRE
import Derived.Test.YtjllbchfojonhaaGreatDoorRH
import Derived.Test.YtjllbchfojonhaaGreatDoorShape
import Derived.Deep.Cut
import Derived.Deep.RegionHeld3
set_option linter.unusedVariables false
set_option linter.unusedSimpArgs false
set_option maxRecDepth 100000
set_option maxHeartbeats 200000000
namespace Go.Proofs.YtjllbchfojonhaaGreatDoor
open Go.RowKit
theorem make_nums (q:Nat) (hq:q≤1000) (w:World):(Instr.makeSlice 23 (.int .i64 (q:Int)) (.int .i64 (q:Int))).run Tryz.prog w= .ok (.slice (some ⟨w.heap.size,0,none⟩) q q) (w.alloc (.cells (Aq (List.replicate q 0)) 3)):=by
  obtain⟨i,hi,he⟩:=Option.map_eq_some_iff.1 info3;simp only[Prod.mk.injEq]at he;obtain⟨hz,hsz,hby⟩:=he;have hr:=Go.run_makeSlice (P:=Tryz.prog) (w:=w) 23 3 i (.int .i64 0) (by kernel_rfl) hi hz .i64 .i64 (q:Int) (q:Int) (by omega) (Int.le_refl _) (by rw[hsz];omega) (by rw[hby];omega) (by omega);rw[hsz,Int.toNat_natCast,Nat.mul_one,made_ints]at hr;exact hr
def zeroM (n:Nat) (e:Int):StM:={ints:=List.replicate n 0,bools:=List.replicate n false,arrs:=List.replicate n 0,arrays:=[],block:=0,pc:=0,out:={ending:=e,value:=0,trap:=0,trace:=[],steps:=0,checks:=[0,0,0,0,0,0,0,0]},ended:=false}
def zeroR (gi gb ga:Nat):vk:=⟨gi,gb,ga,.slice none 0 0,.slice none 0 0,[]⟩
theorem WAt.start {wB W:World} {g gi gb ga n:Nat} {f:ax} (k:ai wB W []) (h1:Blk W gi 2 (Aq (List.replicate n 0))) (h2:Blk W gb 4 (oz (List.replicate n false))) (h3:Blk W ga 3 (Aq (List.replicate n 0)))
    (h4:Blk W g 75 (kv (zeroR gi gb ga) f n (zeroM n 0))) (b1:wB.heap.size≤gi) (b2:wB.heap.size≤gb) (b3:wB.heap.size≤ga) (b4:wB.heap.size≤g):WAt wB W g (zeroR gi gb ga) f n (zeroM n 0):=
  ⟨k, b4, h4, ⟨b1, h1, List.length_replicate⟩, ⟨b2, h2, List.length_replicate⟩, ⟨b3, h3, List.length_replicate⟩, World.ownsRow_nil _ _ _ _, fun i hi => absurd hi (Nat.not_lt_zero _), rfl, World.ownsRow_nil _ _ _ _,
   fun i hi=>absurd hi (Nat.not_lt_zero _),fun i hi=>absurd hi (Nat.not_lt_zero _),(fun h=>by cases h),fun i j hi=>absurd hi (Nat.not_lt_zero _),rfl⟩
theorem stateC_end (R:vk) (f:ax) (n:Nat) (s:StM) (z:Int):(kv R f n s).setIfInBounds 9 (.int .i64 z)=kv R f n {s with out:={s.out with ending:=z}}:=by simp[kv]
theorem mapset {α:Type} (n k:Nat) (p q:Nat→α) (x:α) (h:∀j,j<n→j≠k→q j=p j) (hk:q k=x):((List.range n).map p).set k x=(List.range n).map q:=by
  apply List.ext_getElem (by simp);intro j h1 h2;rw[List.getElem_set];simp only[List.getElem_map,List.getElem_range];by_cases e:k=j
  · subst e;rw[if_pos rfl,hk]
  · rw[if_neg e];exact(h j (by simpa using h2) (fun h=>e h.symm)).symm
def arrsM (n k:Nat):StM:={zeroM n 3 with arrs:=(List.range n).map fun j=>if j<k then -1 else 0}
theorem Do {α:Type} (n:Nat) (x:α) (p:Nat→α) (h:∀j,j<n→p j=x):(List.range n).map p=List.replicate n x:=by
  apply List.ext_getElem (by simp);intro j h1 h2;simp only[List.getElem_map,List.getElem_range,List.getElem_replicate];exact h j (by simpa using h2)
theorem arrsM_0 (n:Nat):arrsM n 0=zeroM n 3:=by unfold arrsM;rw[Do n (0:Int) _ (fun j _=>by simp)];rfl
theorem arrsM_s (n k:Nat):(arrsM n k).mg (k:Nat) (-1)=arrsM n (k+1):=by
  unfold arrsM StM.mg;simp only[Int.toNat_natCast];rw[mapset n k _ (fun j=>if j<k+1 then(-1:Int)else 0) (-1) (fun j _ hj=>by by_cases e:j<k<;>simp[e]<;>omega) (by simp)]
def ym (n:Nat) (ty:Int→Int) (A:List ArgM) (k:Nat):StM:=
  { zeroM n 3 with
    ints:=(List.range n).map fun j=>if j<k∧ty (j:Nat)=0 then A[j]!.int else 0
    bools:=(List.range n).map fun j=>if j<k∧ty (j:Nat)=1 then A[j]!.bool else false
    arrs:=(List.range n).map fun j=>if j<k∧¬ty (j:Nat)=0∧¬ty (j:Nat)=1 then A[j]!.arr else -1}
theorem argsM_0 (n:Nat) (ty:Int→Int) (A:List ArgM):arrsM n n=ym n ty A 0:=by
  unfold arrsM ym;rw[Do n (-1:Int) _ (fun j hj=>by simp[hj]),Do n (0:Int) _ (fun j _=>by simp),Do n false _ (fun j _=>by simp),Do n (-1:Int) _ (fun j _=>by simp)];rfl
theorem argsM_i {n k:Nat} {ty:Int→Int} {A:List ArgM} (h:ty (k:Nat)=0):(ym n ty A k).jg (k:Nat) A[k]!.int=ym n ty A (k+1):=by
  unfold ym StM.jg;simp only[Int.toNat_natCast]
  have h1:((List.range n).map fun j=>if j<k∧ty (j:Nat)=1 then A[j]!.bool else false)=(List.range n).map fun j=>if j<k+1∧ty (j:Nat)=1 then A[j]!.bool else false:=List.map_congr_left fun j _=>by
    by_cases e:j=k
    · subst e;simp[h]
    · have:j<k+1↔j<k:=by omega
      simp[this]
  have h2:((List.range n).map fun j=>if j<k∧¬ty (j:Nat)=0∧¬ty (j:Nat)=1 then A[j]!.arr else -1)=(List.range n).map fun j=>if j<k+1∧¬ty (j:Nat)=0∧¬ty (j:Nat)=1 then A[j]!.arr else -1:=List.map_congr_left fun j _=>by
    by_cases e:j=k
    · subst e;simp[h]
    · have:j<k+1↔j<k:=by omega
      simp[this]
  rw[h1,h2,mapset n k _ (fun j=>if j<k+1∧ty (j:Nat)=0 then A[j]!.int else 0) A[k]!.int (fun j _ hj=>by simp[show j<k+1↔j<k by omega]) (by simp[h])]
theorem argsM_b {n k:Nat} {ty:Int→Int} {A:List ArgM} (h:ty (k:Nat)=1):(ym n ty A k).lq (k:Nat) A[k]!.bool=ym n ty A (k+1):=by
  unfold ym StM.lq;simp only[Int.toNat_natCast]
  have h1:((List.range n).map fun j=>if j<k∧ty (j:Nat)=0 then A[j]!.int else 0)=(List.range n).map fun j=>if j<k+1∧ty (j:Nat)=0 then A[j]!.int else 0:=List.map_congr_left fun j _=>by
    by_cases e:j=k
    · subst e;simp[h]
    · have:j<k+1↔j<k:=by omega
      simp[this]
  have h2:((List.range n).map fun j=>if j<k∧¬ty (j:Nat)=0∧¬ty (j:Nat)=1 then A[j]!.arr else -1)=(List.range n).map fun j=>if j<k+1∧¬ty (j:Nat)=0∧¬ty (j:Nat)=1 then A[j]!.arr else -1:=List.map_congr_left fun j _=>by
    by_cases e:j=k
    · subst e;simp[h]
    · have:j<k+1↔j<k:=by omega
      simp[this]
  rw[h1,h2,mapset n k _ (fun j=>if j<k+1∧ty (j:Nat)=1 then A[j]!.bool else false) A[k]!.bool (fun j _ hj=>by simp[show j<k+1↔j<k by omega]) (by simp[h])]
theorem argsM_a {n k:Nat} {ty:Int→Int} {A:List ArgM} (h:¬ty (k:Nat)=0) (h':¬ty (k:Nat)=1):(ym n ty A k).mg (k:Nat) A[k]!.arr=ym n ty A (k+1):=by
  unfold ym StM.mg;simp only[Int.toNat_natCast]
  have h1:((List.range n).map fun j=>if j<k∧ty (j:Nat)=0 then A[j]!.int else 0)=(List.range n).map fun j=>if j<k+1∧ty (j:Nat)=0 then A[j]!.int else 0:=List.map_congr_left fun j _=>by
    by_cases e:j=k
    · subst e;simp[h]
    · have:j<k+1↔j<k:=by omega
      simp[this]
  have h2:((List.range n).map fun j=>if j<k∧ty (j:Nat)=1 then A[j]!.bool else false)=(List.range n).map fun j=>if j<k+1∧ty (j:Nat)=1 then A[j]!.bool else false:=List.map_congr_left fun j _=>by
    by_cases e:j=k
    · subst e;simp[h']
    · have:j<k+1↔j<k:=by omega
      simp[this]
  rw[h1,h2,mapset n k _ (fun j=>if j<k+1∧¬ty (j:Nat)=0∧¬ty (j:Nat)=1 then A[j]!.arr else -1) A[k]!.arr (fun j _ hj=>by simp[show j<k+1↔j<k by omega]) (by simp[h,h'])]
theorem WAt.lower {w wB W:World} {g:Nat} {R:vk} {f:ax} {n:Nat} {s:StM} (h:WAt wB W g R f n s) (k:ai w wB []):WAt w W g R f n s:=
  ⟨k.ak h.k,Nat.le_trans k.size h.base,h.blk,⟨Nat.le_trans k.size h.bi.1,h.bi.2⟩,⟨Nat.le_trans k.size h.bb.1,h.bb.2⟩,⟨Nat.le_trans k.size h.ba.1,h.ba.2⟩,Be h.rows k.size,fun i hi=>Be (h.row i hi) k.size,h.arr,Be h.trace k.size,h.apT,h.apI,h.apTI,h.apR,h.ck⟩
theorem run_copy_nil (w:World) (g:Nat) (t ty e:TypeId) (i:TypeInfo) (h1:Tryz.prog.underlying t=some (.slice e)) (h2:Tryz.prog.info? e=some i) (h4:i.size=1) (xa:Option Addr) (c:Nat):
    (Builtin.append_ #[t,t] ty #[.slice (some ⟨g,0,none⟩) 0 0,.slice xa 0 c]).run Tryz.prog w= .ok (.slice (some ⟨g,0,none⟩) 0 0) w:=by
  cases xa<;>simp[Builtin.append_,run_underlying h1,sizeOf,typeInfo,h2,Builtin.lenOf,Builtin.firstCells,loadCells,loadCellsFrom,storeCells]
theorem wp_copy {o:Oper} {a:Act} {w:World} {K:Act→World→Prop} {Q:Exit→Act→World→Prop} (s x:Operand) (t:TypeId) (hop:o.op= .call ⟨.builtin .append,#[s,x],#[t,t]⟩) (g:Nat)
    (e:TypeId) (i:TypeInfo) (z:Value) (bytes:Nat) (h1:Tryz.prog.underlying t=some (.slice e)) (h2:Tryz.prog.info? e=some i) (h3:i.zero=some z) (h4:i.size=1) (h5:i.bytes=bytes) (h6:z.cells.size=1)
    (hs:a.eval s= .slice (some ⟨g,0,none⟩) 0 0) (hB:Blk w g e #[]) (xa:Option Addr) (m c:Nat) (news:List Value) (hx:a.eval x= .slice xa m c) (hn:news.length=m) (hc:m=0∨∃ad,xa=some ad∧∀j u,news[j]? =some u→w.cell? (ad.add j)=some u) (h1c:∀u∈news,u.oneCell'=true)
    (b1:m≤maxLen) (b2:m*bytes≤140737488355328)
    (hK:∀v' w',w'.ownsRow g e 1 v' m news→ai w w' []→K (a.put o.dst v') w'):o.wp Tryz.prog a w K Q:=by
  have hrun:∃v' w',(Builtin.append_ #[t,t] o.type #[.slice (some ⟨g,0,none⟩) 0 0,.slice xa m c]).run Tryz.prog w= .ok v' w'∧w'.ownsRow g e 1 v' m news∧ai w w' []:=by
    rcases hc with rfl|⟨ad,rfl,hc⟩
    · obtain rfl:news=[]:=List.eq_nil_of_length_eq_zero hn
      exact⟨_,_,run_copy_nil w g t o.type e i h1 h2 h4 xa c,⟨rfl,.inr ⟨g,0,#[],rfl,Nat.le_refl _,hB,Nat.le_refl _,by simp[maxLen],rfl,rfl⟩⟩,ai.refl _ _⟩
    · exact run_copy w g g (Nat.le_refl _) t o.type e i z bytes h1 h2 h3 h4 h5 h6 hB ad m c news hn hc h1c b1 b2
  obtain⟨v',w',hr,r1,r2⟩:=hrun;unfold Oper.wp execOp;simp only[hop,resolve,invoke,builtin,Sem.run_bind,Sem.run_pure,Result.andThen_ok,List.map_toArray,List.map_cons,List.map_nil,hs,hx,hr];exact hK v' w' r1 r2
def BeginRet (w:World) (f:ax) (s:StM) (e:Ending) (w':World):Prop:=∃g R,e= .returned (.pointer (some ⟨g,0,none⟩))∧WAt w w' g R f f.nv s
def withM (s:StM) (l:List (List Int)):StM:={s with arrays:=l}
theorem argsM_end (n:Nat) (ty:Int→Int) (A:List ArgM) (l:List (List Int)):withM (ym n ty A A.length) l=qg n ty A l:=rfl
theorem begin_any (f:ax) (i:ku) (w:World) (hf:cz w f) (hi:Ad w i) (hp:i.args.2.length≤f.nv) (hb0:f.nv≤1000) (hb1:i.args.2.length≤1000) (hb2:i.arrays.2.length≤1000) (hb3:∀p∈i.arrays.2,p.2.length≤1000):
    Calls Tryz.prog 26 #[f.val,i.val] w (BeginRet w f (qg f.nv f.tyI i.args.2 (i.arrays.2.map Prod.snd))):=by
  have HB3:=ag hb3;clear hb3;obtain⟨a0,c0,a1,c1,a2,c2,e0,e1,e2,hval,h1,HF,HC0,HC1,HC2,HNV,HNP,HNB⟩:=qj hf;have HFV:=ag (And.intro e0 (And.intro e1 e2));rw[hval];clear e0 e1 e2 hval h1 hf;obtain⟨b0,d0,g0,-,-,hd0⟩:=hi.args.open_;obtain⟨b1,d1,g1,-,-,hd1⟩:=hi.arrays.open_;have HI:=ag hi;have HD0:=ag hd0;have HD1:=ag hd1;generalize hna:i.args.2.length=na at*;generalize hnr:i.arrays.2.length=nr at*;have HNA:=ag hna;have HNR:=ag hnr;rw[show i.val= .agg #[.slice b0 na d0,.slice b1 nr d1] by unfold ku.val;rw[g0,g1]];clear g0 g1 hd0 hd1 hi hna hnr;have hk0:ai w (w.alloc (.cells #[.slice a0 f.nv c0,.slice a1 f.np c1,.slice a2 f.nb c2] 26)) []:=(ai.refl _ []).alloc _;have bb0:=Blk.new w 26 #[.slice a0 f.nv c0,.slice a1 f.np c1,.slice a2 f.nb c2];have hk1:ai (w.alloc (.cells #[.slice a0 f.nv c0,.slice a1 f.np c1,.slice a2 f.nb c2] 26)) ((w.alloc (.cells #[.slice a0 f.nv c0,.slice a1 f.np c1,.slice a2 f.nb c2] 26)).alloc (.cells #[.slice b0 na d0,.slice b1 nr d1] 57)) []:=(ai.refl _ []).alloc _;have bb1:=Blk.new (w.alloc (.cells #[.slice a0 f.nv c0,.slice a1 f.np c1,.slice a2 f.nb c2] 26)) 57 #[.slice b0 na d0,.slice b1 nr d1];rw[show(w.alloc (.cells #[.slice a0 f.nv c0,.slice a1 f.np c1,.slice a2 f.nb c2] 26)).heap.size=w.heap.size+1 by show(Array.push _ _).size=_;simp[Array.size_push]]at bb1;have Bl:=ag (bb0.keep hk1 (by simp));have Bm:=ag bb1;have HK:=ag (hk0.ak hk1);obtain⟨l0,l1,l2⟩:=Bl.o.c3;obtain⟨m0,m1⟩:=Bm.o.c2;simp at l0 l1 l2 m0 m1;clear hk0 hk1 bb0 bb1;go_enter Tryz.func26,Tryz.ntmps26;go_wp2;clear l0 l1 l2 m0 m1;generalize((w.alloc (.cells #[.slice a0 f.nv c0,.slice a1 f.np c1,.slice a2 f.nb c2] 26)).alloc (.cells #[.slice b0 na d0,.slice b1 nr d1] 57))=W0 at*;have Bl_W0:=Bl;have Bm_W0:=Bm;have TW0:=HK;clear HK;have HK:=ag (ai.refl W0 []);obtain⟨l0,l1,l2⟩:=Bl.o.c3;obtain⟨m0,m1⟩:=Bm.o.c2;simp at l0 l1 l2 m0 m1;have hm2:=make_ints f.nv hb0;have hm4:=make_bools f.nv hb0;have hm3:=make_nums f.nv hb0;have kd:ai W0 (World.drew W0) []:=(ai.refl W0 []).drew;have l0d:=kd.cellOf l0;have l1d:=kd.cellOf l1;have l2d:=kd.cellOf l2;clear kd;have HKS:=ag TW0.o.size;have HKS2:=HKS.o;have HCE:=ag (show ∀gi gb ga,kv (zeroR gi gb ga) f f.nv (zeroM f.nv 0)=#[.slice a0 f.nv c0,.slice a1 f.np c1,.slice a2 f.nb c2,.slice (some ⟨gi,0,none⟩) f.nv f.nv,.slice (some ⟨gb,0,none⟩) f.nv f.nv,.slice (some ⟨ga,0,none⟩) f.nv f.nv,.slice none 0 0,.int .i64 0,.int .i64 0,.int .i64 0,.int .i64 0,.int .i64 0,.slice none 0 0,.int .i64 0,.int .i64 0,.int .i64 0,.int .i64 0,.int .i64 0,.int .i64 0,.int .i64 0,.int .i64 0,.int .i64 0,.bool false]from fun gi gb ga=>by unfold kv;rw[HFV.o.1,HFV.o.2.1,HFV.o.2.2];rfl);go_cut [6]from 15 to 23 (fun t6 wx=>∃g R X,X=wx∧t6= .pointer (some ⟨g,0,none⟩)∧WAt W0 X g R f f.nv (zeroM f.nv 0))
  case first=>
    clear l0d l1d l2d;go_region_held (fun w'=>w'.cell? ⟨w.heap.size,0,none⟩=some (.slice a0 f.nv c0)∧w'.cell? ⟨w.heap.size,1,none⟩=some (.slice a1 f.np c1)∧w'.cell? ⟨w.heap.size,2,none⟩=some (.slice a2 f.nb c2)) (exact⟨ai.cellOf (by repeat' first |with_reducible exact ai.refl _ _|with_reducible apply ai.drew|with_reducible apply ai.alloc) l0,ai.cellOf (by repeat' first |with_reducible exact ai.refl _ _|with_reducible apply ai.drew|with_reducible apply ai.alloc) l1,ai.cellOf (by repeat' first |with_reducible exact ai.refl _ _|with_reducible apply ai.drew|with_reducible apply ai.alloc) l2⟩) (fail)
    all_goals(first |go_wp2|skip)
    all_goals go_meet
    all_goals(refine⟨_,zeroR _ _ _,_,rfl,rfl,WAt.start (by repeat' first |with_reducible exact ai.refl _ _|with_reducible apply ai.drew|with_reducible apply ai.alloc) ?_ ?_ ?_ (by rw[HCE.o];exact(by repeat' first |with_reducible exact blk_here _ _ _ (by simp)|with_reducible refine Blk.keep ?_ ((ai.refl _ []).drew) (by simp)|with_reducible refine Blk.keep ?_ ((ai.refl _ []).alloc _) (by simp))) ?_ ?_ ?_ ?_⟩)
    all_goals(first |omega|exact(by repeat' first |with_reducible exact blk_here _ _ _ (by simp)|with_reducible refine Blk.keep ?_ ((ai.refl _ []).drew) (by simp)|with_reducible refine Blk.keep ?_ ((ai.refl _ []).alloc _) (by simp)))
  case rest=>
    obtain⟨g,R,X,rfl,rfl,hW⟩:=hcut;have HW:=ag hW;clear hW l0 l1 l2 m0 m1 HK;try clear l0d l1d l2d
    clear hm2 hm4 hm3 HCE;clear HKS2;have f9:=HW.o.fz 9;have c9:X.cell? ⟨g,9,none⟩=some (.int .i64 0):=(HW.o.blk.cell 9).trans rfl;have HV:=ag (HW.o.turn (ed X g 9 (.int .i64 3)) (by have e:=stateC_end R f f.nv (zeroM f.nv 0) 3;have hb:=HW.o.blk.gu 9 (.int .i64 3);rw[e]at hb;exact hb) (s':=zeroM f.nv 3) rfl rfl rfl rfl rfl rfl);have c5:(X.setCell ⟨g,9,none⟩ (.int .i64 3)).cell? ⟨g,5,none⟩=_:=HV.o.c5;clear HW
    skip
    go_wp2;go_loopw [33] (fun i' wr=>∃k:Nat,k≤f.nv∧i'= .int .i64 k∧WAt W0 wr g R f f.nv (arrsM f.nv k)) (fun i' _=>f.nv -(intOf i').toNat)
    case atStart=>exact⟨0,Nat.zero_le _,rfl,by rw[arrsM_0];exact HV.o⟩
    case round=>
      obtain⟨k,hk,rfl,hW⟩:=hrel;have HW:=ag hW;clear hW HV;try clear c5 c9 f9
      by_cases hlt:k<f.nv
      · have hltz:(k:Int)<(f.nv:Int):=by omega
        have c5:=HW.o.c5;have f0:=HW.o.ba.2.1.frozen k;have a0':=HW.o.kr hlt;have HN:=ag (show WAt W0 (wr.setCell ⟨R.ga,k,none⟩ (.int .i64 (-1))) g R f f.nv (arrsM f.nv (k+1)) by rw[←arrsM_s];exact HW.o.mg k (-1));generalize hav:(arrsM f.nv k).A (k:Nat)=av at*;go_wp2;go_roundw
        case rel=>exact⟨k+1,by omega,by go_num,HN.o⟩
        case measure=>simp[intOf];omega
      · have hltz:¬(k:Int)<(f.nv:Int):=by omega
        have hkn:k=f.nv:=(by omega);rw[hkn,argsM_0 f.nv f.tyI i.args.2]at HW;have m0:=(Bm_W0.o.keep HW.o.k (by simp)).cell 0;simp at m0;go_wp2;clear m0;go_loopw [46] (fun i' wr=>∃k:Nat,k≤na∧i'= .int .i64 k∧WAt W0 wr g R f f.nv (ym f.nv f.tyI i.args.2 k)) (fun i' _=>na -(intOf i').toNat)
        case atStart=>exact⟨0,Nat.zero_le _,rfl,HW.o⟩
        case round=>
          obtain⟨k2,hk2,rfl,hW⟩:=hrel;clear HW;have HW:=ag hW;clear hW;by_cases hlt2:k2<na
          · have hltz2:(k2:Int)<(na:Int):=by omega
            have hkv:k2<f.nv:=(by omega);have hkvz:(k2:Int)<(f.nv:Int):=(by omega);obtain⟨bb,off,rfl,hbl,hcell⟩:=HD0.o k2 hlt2;obtain⟨vb,vo,rfl,hvl,hvc⟩:=HC0.o k2 (by rw[HNV.o];exact hkv);have n0:=(TW0.o.ak HW.o.k).cellOf (hcell 0 _ rfl);have n1:=(TW0.o.ak HW.o.k).cellOf (hcell 1 _ rfl);have n2:=(TW0.o.ak HW.o.k).cellOf (hcell 2 _ rfl);simp only[Nat.add_zero]at n0;have hty:f.tyI (k2:Nat)=f.vars.2[k2]!.type:=(by unfold ax.tyI ax.ty;rw[Int.toNat_natCast,List.getElem?_eq_getElem (by rw[HNV.o];exact hkv),getElem!_pos f.vars.2 k2 (by rw[HNV.o];exact hkv)];rfl);have HQ1:=ag (hvc 1 _ rfl);rw[←hty]at HQ1;clear hty hcell hvc HD0 HC0;have HSI:=ag (fun h=>argsM_i (n:=f.nv) (k:=k2) (ty:=f.tyI) (A:=i.args.2) h);have HSB:=ag (fun h=>argsM_b (n:=f.nv) (k:=k2) (ty:=f.tyI) (A:=i.args.2) h);have HSA:=ag (fun h h'=>argsM_a (n:=f.nv) (k:=k2) (ty:=f.tyI) (A:=i.args.2) h h');generalize i.args.2[k2]! =y at*;generalize y.int=yi at*;generalize y.bool=yb at*;generalize y.arr=ya at*;generalize hft:f.tyI (k2:Nat)=ft at*;have HWV:=ag (HW.o.keep ((ai.refl wr []).alloc (.cells #[.int .i64 yi,.bool yb,.int .i64 ya] 98)));have BP:=ag (Blk.new wr 98 #[.int .i64 yi,.bool yb,.int .i64 ya]);go_upto_region 12 with(fail)
            generalize hVV:wr.alloc (.cells #[.int .i64 yi,.bool yb,.int .i64 ya] 98)=V at*;generalize wr.heap.size=pg at*;clear hVV n0 n1 n2 HW;have l0:=(Bl_W0.o.keep HWV.o.k (by simp)).cell 0;simp at l0;have q1:V.cell? ⟨vb,vo+k2*2+1,none⟩=some (.int .i64 ft):=(TW0.o.ak HWV.o.k).cellOf HQ1.o;have HWD:=ag (HWV.o.keep ((ai.refl V []).drew));have BPD:=ag (BP.o.keep ((ai.refl V []).drew) (by simp));obtain⟨p0,p1,p2⟩:=BP.o.c3;obtain⟨p0d,p1d,p2d⟩:=BPD.o.c3;simp at p0 p1 p2 p0d p1d p2d;by_cases hf0:ft=0
            · have e0:=HSI.o hf0
              subst hf0;have c:=HWV.o.c3;have cd:=HWD.o.c3;have f0:=HWV.o.bi.2.1.frozen k2;have f0d:=HWD.o.bi.2.1.frozen k2;have a9:=HWV.o.dw hkv;have a9d:=HWD.o.dw hkv;have HN:=ag (show WAt W0 _ g R f f.nv (ym f.nv f.tyI i.args.2 (k2+1))from e0▸HWV.o.jg k2 yi);generalize hzz:StM.I (ym f.nv f.tyI i.args.2 k2) (k2:Nat)=zz at*;clear hzz;go_wp2;go_region
              go_wp2;go_roundw
              case rel=>exact⟨k2+1,by omega,by go_num,by first |exact HN.o|exact HN.o.keep ((ai.refl _ []).drew)⟩
              case measure=>simp[intOf];omega
            by_cases hf1:ft=1
            · have e0:=HSB.o hf1
              subst hf1;have c:=HWV.o.c4;have cd:=HWD.o.c4;have f0:=HWV.o.bb.2.1.frozen k2;have f0d:=HWD.o.bb.2.1.frozen k2;have a9:=HWV.o.dz hkv;have a9d:=HWD.o.dz hkv;have HN:=ag (show WAt W0 _ g R f f.nv (ym f.nv f.tyI i.args.2 (k2+1))from e0▸HWV.o.lq k2 yb);generalize hzz:StM.B (ym f.nv f.tyI i.args.2 k2) (k2:Nat)=zz at*;clear hzz;go_wp2;go_region
              go_wp2;go_roundw
              case rel=>exact⟨k2+1,by omega,by go_num,by first |exact HN.o|exact HN.o.keep ((ai.refl _ []).drew)⟩
              case measure=>simp[intOf];omega
            have e0:=HSA.o hf0 hf1;have hf0b:(ft==0)=false:=(by simpa using hf0);have hf1b:(ft==1)=false:=(by simpa using hf1);have c:=HWV.o.c5;have cd:=HWD.o.c5;have f0:=HWV.o.ba.2.1.frozen k2;have f0d:=HWD.o.ba.2.1.frozen k2;have a9:=HWV.o.kr hkv;have a9d:=HWD.o.kr hkv;have HN:=ag (show WAt W0 _ g R f f.nv (ym f.nv f.tyI i.args.2 (k2+1))from e0▸HWV.o.mg k2 ya);generalize hzz:StM.A (ym f.nv f.tyI i.args.2 k2) (k2:Nat)=zz at*;clear hzz;go_wp2;go_region
            go_wp2;go_roundw
            case rel=>exact⟨k2+1,by omega,by go_num,by first |exact HN.o|exact HN.o.keep ((ai.refl _ []).drew)⟩
            case measure=>simp[intOf];omega
          · have hltz2:¬(k2:Int)<(na:Int):=by omega
            have hkn2:k2=i.args.2.length:=(by have:=HNA.o;omega);rw[hkn2]at HW;have HZ:=ag (show WAt W0 wr g R f f.nv (withM (ym f.nv f.tyI i.args.2 i.args.2.length) (((i.arrays.2.map Prod.snd)).take 0))from HW.o);have m1:=(Bm_W0.o.keep HW.o.k (by simp)).cell 1;simp at m1;generalize hst:ym f.nv f.tyI i.args.2 i.args.2.length=st at*;clear HW hlt2;go_wp2;clear m1;obtain⟨i61,hi2,he2⟩:=Option.map_eq_some_iff.1 info61;simp only[Prod.mk.injEq]at he2;obtain⟨hz2,hs2,hb2'⟩:=he2;obtain⟨i2',hi2',he2'⟩:=Option.map_eq_some_iff.1 info2;simp only[Prod.mk.injEq]at he2';obtain⟨hz2',hs2',hb2''⟩:=he2';go_loopw [89] (fun i' wr=>∃k:Nat,k≤nr∧i'= .int .i64 k∧∃R',WAt W0 wr g R' f f.nv (withM st ((i.arrays.2.map Prod.snd).take k))) (fun i' _=>nr -(intOf i').toNat)
            case atStart=>exact⟨0,Nat.zero_le _,rfl,R,HZ.o⟩
            case round=>
              obtain⟨k3,hk3,rfl,R',hW⟩:=hrel;clear HZ;have HW:=ag hW;clear hW;by_cases hlt3:k3<nr
              · have hltz3:(k3:Int)<(nr:Int):=by omega
                obtain⟨bb,off,rfl,hbl,hcell⟩:=HD1.o k3 hlt3;have hmem:=az (l:=i.arrays.2) (k:=k3) (by rw[HNR.o];exact hlt3);have HQL:=ag (HB3.o _ hmem);obtain⟨va,vc,ve,hle,hmx,hro⟩:=(show Row _ 1 _ _ from HI.o.arr _ hmem);rw[List.length_map]at ve hle hro;have hpre:=HW.o.k;have n0:wr.cell? ⟨bb,off+k3*1,none⟩=some i.arrays.2[k3]!.1:=(TW0.o.ak hpre).cellOf (hcell 0 _ rfl);rw[ve,Nat.mul_one]at n0;clear hcell HD1 hpre;have HTK:=ag (show(i.arrays.2.map Prod.snd).take (k3+1)=(i.arrays.2.map Prod.snd).take k3++[i.arrays.2[k3]!.2] by rw[List.take_succ_eq_append_getElem (by rw[List.length_map,HNR.o];exact hlt3),List.getElem_map,getElem!_pos i.arrays.2 k3 (by rw[HNR.o];exact hlt3)]);have HTL:=ag (show((i.arrays.2.map Prod.snd).take k3).length=k3 by rw[List.length_take,List.length_map,HNR.o];omega);have HRO:=ag (show i.arrays.2[k3]!.2.length=0∨∃ad,va=some ad∧∀j u,(i.arrays.2[k3]!.2.map (Value.int .i64))[j]? =some u→w.cell? (ad.add j)=some u from hro.imp id (fun⟨b,o,e,hb,hh⟩=>⟨_,e,fun j u hu=>by rw[List.getElem?_map]at hu;obtain⟨z,hz,rfl⟩:=Option.map_eq_some_iff.1 hu;have h9:=hh j (intCells z) (by rw[List.getElem?_map,hz];rfl) 0 _ rfl;rw[add_plain];rw[Nat.mul_one,Nat.add_zero]at h9;exact h9⟩));clear hro ve hmem;generalize hql:i.arrays.2[k3]!.2=ql at*;clear hql;have HML:=ag (show ql.length≤maxLen by omega);have HML2:=HQL.o;clear hle hmx;obtain⟨ta,tc,et⟩:=HW.o.form;have HSL:=ag (show(withM st ((i.arrays.2.map Prod.snd).take k3)).arrays.length=k3 from HTL.o);rw[HSL.o]at et;have HAL:=ag HW.o.alen;rw[HSL.o]at HAL;generalize hs':withM st ((i.arrays.2.map Prod.snd).take k3)=s' at*;have HSN:=ag (show{s' with arrays:=s'.arrays++[ql]}=withM st ((i.arrays.2.map Prod.snd).take (k3+1)) by rw[HTK.o,←hs'];rfl);clear hs' HTK HTL;go_wp2;clear n0;refine wp_region_held_drew (S:=fun _=>True) (by kernel_rfl) ?h5Ss (fun hHeld=> ?_)
                case h5Ss=>exact trivial
                have HW0:=ag (HW.o.keep ((ai.refl wr []).drew));clear HW;generalize World.drew wr=Z0 at*;have HW:=HW0;have c6:=HW.o.c6;rw[et]at c6;refine tk (i:=0) (oi:=⟨some 93,.move (.tmp 6),_,_,_,_⟩) (v:= ?v50) rfl (Or.inl ⟨by rfl, ?y50⟩) hHeld ?r50
                case y50=>(intro w hSw;clear hSw;go_simp;(try with_reducible rfl))
                try simp only[Act.put,sA,sB,sC]
                refine tk (i:=1) (oi:=⟨some 94,.move (.tmp 6),_,_,_,_⟩) (v:= ?v51) rfl (Or.inl ⟨by rfl, ?y51⟩) hHeld ?r51
                case y51=>(intro w hSw;clear hSw;go_simp;(try with_reducible rfl))
                try simp only[Act.put,sA,sB,sC]
                refine tk (i:=2) (oi:=⟨some 95,.nilCheck (.tmp 94),_,_,_,_⟩) (v:= ?v52) rfl (Or.inl ⟨by rfl, ?y52⟩) hHeld ?r52
                case y52=>(intro w hSw;clear hSw;go_simp;(try with_reducible rfl))
                try simp only[Act.put,sA,sB,sC]
                refine tk (i:=3) (oi:=⟨some 96,.fieldAddr 75 (.tmp 95) 4,_,_,_,_⟩) (v:= ?v53) rfl (Or.inl ⟨by rfl, ?y53⟩) hHeld ?r53
                case y53=>(intro w hSw;clear hSw;go_simp;(try with_reducible rfl))
                try simp only[Act.put,sA,sB,sC]
                refine tk (i:=6) (oi:=⟨some 99,.move (.tmp 11),_,_,_,_⟩) (v:= ?v56) rfl (Or.inl ⟨by rfl, ?y56⟩) hHeld ?r56
                case y56=>(intro w hSw;clear hSw;go_simp;(try with_reducible rfl))
                try simp only[Act.put,sA,sB,sC]
                refine t2 [4,5] ?_;refine t3 (fun K hK=> ?_) ?_
                · clear hHeld
                  go_simp;refine hK.out _ _ trivial (fun hHeld=> ?_);clear hK K;try simp only[Act.put,sA,sB,sC]
                  refine t2 [5] ?_;refine t3 (fun K hK=> ?_) ?_
                  · clear hHeld
                    go_simp;have k3':ai Z0 (Z0.alloc (.cells #[] 2)) []:=(ai.refl Z0 []).alloc _;replace HW:=ag (HW.o.keep k3');clear c6;have HB5:=ag (Blk.new Z0 2 #[]);have K01:=ag k3';clear k3';generalize hZ1:Z0.alloc (.cells #[] 2)=Z1 at*;clear hZ1;have c6:=HW.o.c6;rw[et]at c6;refine hK.out _ _ trivial (fun hHeld=> ?_);clear hK K;try simp only[Act.put,sA,sB,sC]
                    refine t2 [7] ?_;refine t3 (fun K hK=> ?_) ?_
                    · clear hHeld
                      refine wp_copy (.tmp 98) (.tmp 99) 64 rfl Z0.heap.size 2 i2' (.int .i64 0) 8 Tryz.underlying64 hi2' hz2' hs2' hb2'' rfl rfl HB5.o va ql.length vc (ql.map (Value.int .i64)) rfl (by rw[List.length_map]) (HRO.o.imp id (fun⟨ad,e,h⟩=>⟨ad,e,fun j u hu=>(TW0.o.ak (HW.o.k)).cellOf (h j u hu)⟩)) (fun u hu=>by obtain⟨x,_,rfl⟩:=List.mem_map.1 hu;rfl) HML.o (by omega) ?_;intro v1 Z2 hown1 hkp1;obtain⟨xa1,xc1,rfl,_,_⟩:=cr hown1;replace HW:=ag (HW.o.keep hkp1);clear c6;have HOA:=ag hown1;have K02:=ag (K01.o.ak hkp1);clear hown1 hkp1 K01 HB5;have c6:=HW.o.c6;rw[et]at c6;refine hK.out _ _ trivial (fun hHeld=> ?_);clear hK K;try simp only[Act.put,sA,sB,sC]
                      refine t2 [8] ?_;refine t3 (fun K hK=> ?_) ?_
                      · clear hHeld
                        go_simp;have k3':ai Z2 (Z2.alloc (.cells #[.slice xa1 ql.length xc1] 64)) []:=(ai.refl Z2 []).alloc _;replace HW:=ag (HW.o.keep k3');clear c6;have HN:=ag (zx Z2 (.slice xa1 ql.length xc1) 64);have HOB:=ag (au HOA.o k3' (by simp));have K03:=ag (K02.o.ak k3');clear k3' HOA K02;generalize hZ3:Z2.alloc (.cells #[.slice xa1 ql.length xc1] 64)=Z3 at*;generalize Z2.heap.size=q2 at*;clear hZ3;have c6:=HW.o.c6;rw[et]at c6;refine hK.out _ _ trivial (fun hHeld=> ?_);clear hK K;try simp only[Act.put,sA,sB,sC]
                        refine t2 [9] ?_;refine t3 (fun K hK=> ?_) ?_
                        · clear hHeld
                          have HO:=HW.o.rows;have HWS2:=HW.o.k.size;rw[et,HAL.o]at HO;refine wp_append_own _ (.tmp 97) (.tmp 101) 55 rfl W0.heap.size 64 i61 (.slice none 0 0) 1 24 Tryz.underlying55 hi2 hz2 hs2 hb2' rfl (by decide) _ _ _ rfl HO ⟨q2,0,none⟩ 1 1 [.slice xa1 ql.length xc1] rfl rfl HN.o (uy rfl) (by unfold maxLen;omega) (by omega) HWS2 ?_;intro v' Z4 hown' hgrow3 _;obtain⟨va4,vc4,rfl,_,_⟩:=cr hown';have hg2:Z3.grownBy Z4 R'.va.ownBlock:=(by rw[et];exact hgrow3);have HF:=ag (HW0.o.more K03.o (Be HOB.o (HW0.o.k.size)) (fun b hb=>(ig HOB.o hb).2) hg2 (by rw[HAL.o];exact hown'));rw[HSN.o]at HF;have HBz:=ag (show Blk Z4 g 75 (kv R' f f.nv s')from(hg2.block g HW.o.blk.lt (fun e=>own_ne HW.o.rows HW.o.blk (by decide) e.symm)).trans HW.o.blk);have d0:=HBz.o.frozen 6;have d1:Z4.cell? ⟨g,6,none⟩=some R'.va:=(HBz.o.cell 6).trans rfl;rw[et]at d1;clear hg2 hown' hgrow3 HO HWS2 c6;refine hK.out _ _ trivial (fun hHeld=> ?_);clear hK K;try simp only[Act.put,sA,sB,sC]
                          refine tk (i:=10) (oi:=⟨some 103,.nilCheck (.tmp 93),_,_,_,_⟩) (v:= ?v5a10) rfl (Or.inl ⟨by rfl, ?y5a10⟩) hHeld ?r5a10
                          case y5a10=>(intro w hSw;clear hSw;go_simp;(try with_reducible rfl))
                          try simp only[Act.put,sA,sB,sC]
                          refine tk (i:=11) (oi:=⟨some 104,.fieldAddr 75 (.tmp 103) 4,_,_,_,_⟩) (v:= ?v5a11) rfl (Or.inl ⟨by rfl, ?y5a11⟩) hHeld ?r5a11
                          case y5a11=>(intro w hSw;clear hSw;go_simp;(try with_reducible rfl))
                          try simp only[Act.put,sA,sB,sC]
                          refine t1 12 fun K hK=> ?_;clear hHeld;go_simp;clear HW0 HW HN HOB K03 HBz d0 d1;refine hK.out _ _ trivial (fun hHeld=> ?_);clear hK K;try simp only[Act.put,sA,sB,sC]
                          refine wpAnyH_done (by kernel_rfl) ?_ _;clear hHeld;go_wp2;go_roundw
                          case rel=>exact⟨k3+1,by omega,by go_num,_,HF.o⟩
                          case measure=>simp[intOf];omega
                        exact t4
                      exact t4
                    exact t4
                  exact t4
                refine t3 (fun K hK=> ?_) ?_
                · clear hHeld
                  go_simp;have k3':ai Z0 (Z0.alloc (.cells #[] 2)) []:=(ai.refl Z0 []).alloc _;replace HW:=ag (HW.o.keep k3');clear c6;have HB5:=ag (Blk.new Z0 2 #[]);have K01:=ag k3';clear k3';generalize hZ1:Z0.alloc (.cells #[] 2)=Z1 at*;clear hZ1;have c6:=HW.o.c6;rw[et]at c6;refine hK.out _ _ trivial (fun hHeld=> ?_);clear hK K;try simp only[Act.put,sA,sB,sC]
                  refine t2 [4,7] ?_;refine t3 (fun K hK=> ?_) ?_
                  · clear hHeld
                    go_simp;refine hK.out _ _ trivial (fun hHeld=> ?_);clear hK K;try simp only[Act.put,sA,sB,sC]
                    refine t2 [7] ?_;refine t3 (fun K hK=> ?_) ?_
                    · clear hHeld
                      refine wp_copy (.tmp 98) (.tmp 99) 64 rfl Z0.heap.size 2 i2' (.int .i64 0) 8 Tryz.underlying64 hi2' hz2' hs2' hb2'' rfl rfl HB5.o va ql.length vc (ql.map (Value.int .i64)) rfl (by rw[List.length_map]) (HRO.o.imp id (fun⟨ad,e,h⟩=>⟨ad,e,fun j u hu=>(TW0.o.ak (HW.o.k)).cellOf (h j u hu)⟩)) (fun u hu=>by obtain⟨x,_,rfl⟩:=List.mem_map.1 hu;rfl) HML.o (by omega) ?_;intro v1 Z2 hown1 hkp1;obtain⟨xa1,xc1,rfl,_,_⟩:=cr hown1;replace HW:=ag (HW.o.keep hkp1);clear c6;have HOA:=ag hown1;have K02:=ag (K01.o.ak hkp1);clear hown1 hkp1 K01 HB5;have c6:=HW.o.c6;rw[et]at c6;refine hK.out _ _ trivial (fun hHeld=> ?_);clear hK K;try simp only[Act.put,sA,sB,sC]
                      refine t2 [8] ?_;refine t3 (fun K hK=> ?_) ?_
                      · clear hHeld
                        go_simp;have k3':ai Z2 (Z2.alloc (.cells #[.slice xa1 ql.length xc1] 64)) []:=(ai.refl Z2 []).alloc _;replace HW:=ag (HW.o.keep k3');clear c6;have HN:=ag (zx Z2 (.slice xa1 ql.length xc1) 64);have HOB:=ag (au HOA.o k3' (by simp));have K03:=ag (K02.o.ak k3');clear k3' HOA K02;generalize hZ3:Z2.alloc (.cells #[.slice xa1 ql.length xc1] 64)=Z3 at*;generalize Z2.heap.size=q2 at*;clear hZ3;have c6:=HW.o.c6;rw[et]at c6;refine hK.out _ _ trivial (fun hHeld=> ?_);clear hK K;try simp only[Act.put,sA,sB,sC]
                        refine t2 [9] ?_;refine t3 (fun K hK=> ?_) ?_
                        · clear hHeld
                          have HO:=HW.o.rows;have HWS2:=HW.o.k.size;rw[et,HAL.o]at HO;refine wp_append_own _ (.tmp 97) (.tmp 101) 55 rfl W0.heap.size 64 i61 (.slice none 0 0) 1 24 Tryz.underlying55 hi2 hz2 hs2 hb2' rfl (by decide) _ _ _ rfl HO ⟨q2,0,none⟩ 1 1 [.slice xa1 ql.length xc1] rfl rfl HN.o (uy rfl) (by unfold maxLen;omega) (by omega) HWS2 ?_;intro v' Z4 hown' hgrow3 _;obtain⟨va4,vc4,rfl,_,_⟩:=cr hown';have hg2:Z3.grownBy Z4 R'.va.ownBlock:=(by rw[et];exact hgrow3);have HF:=ag (HW0.o.more K03.o (Be HOB.o (HW0.o.k.size)) (fun b hb=>(ig HOB.o hb).2) hg2 (by rw[HAL.o];exact hown'));rw[HSN.o]at HF;have HBz:=ag (show Blk Z4 g 75 (kv R' f f.nv s')from(hg2.block g HW.o.blk.lt (fun e=>own_ne HW.o.rows HW.o.blk (by decide) e.symm)).trans HW.o.blk);have d0:=HBz.o.frozen 6;have d1:Z4.cell? ⟨g,6,none⟩=some R'.va:=(HBz.o.cell 6).trans rfl;rw[et]at d1;clear hg2 hown' hgrow3 HO HWS2 c6;refine hK.out _ _ trivial (fun hHeld=> ?_);clear hK K;try simp only[Act.put,sA,sB,sC]
                          refine tk (i:=10) (oi:=⟨some 103,.nilCheck (.tmp 93),_,_,_,_⟩) (v:= ?v5b10) rfl (Or.inl ⟨by rfl, ?y5b10⟩) hHeld ?r5b10
                          case y5b10=>(intro w hSw;clear hSw;go_simp;(try with_reducible rfl))
                          try simp only[Act.put,sA,sB,sC]
                          refine tk (i:=11) (oi:=⟨some 104,.fieldAddr 75 (.tmp 103) 4,_,_,_,_⟩) (v:= ?v5b11) rfl (Or.inl ⟨by rfl, ?y5b11⟩) hHeld ?r5b11
                          case y5b11=>(intro w hSw;clear hSw;go_simp;(try with_reducible rfl))
                          try simp only[Act.put,sA,sB,sC]
                          refine t1 12 fun K hK=> ?_;clear hHeld;go_simp;clear HW0 HW HN HOB K03 HBz d0 d1;refine hK.out _ _ trivial (fun hHeld=> ?_);clear hK K;try simp only[Act.put,sA,sB,sC]
                          refine wpAnyH_done (by kernel_rfl) ?_ _;clear hHeld;go_wp2;go_roundw
                          case rel=>exact⟨k3+1,by omega,by go_num,_,HF.o⟩
                          case measure=>simp[intOf];omega
                        exact t4
                      exact t4
                    exact t4
                  refine t3 (fun K hK=> ?_) ?_
                  · clear hHeld
                    refine wp_copy (.tmp 98) (.tmp 99) 64 rfl Z0.heap.size 2 i2' (.int .i64 0) 8 Tryz.underlying64 hi2' hz2' hs2' hb2'' rfl rfl HB5.o va ql.length vc (ql.map (Value.int .i64)) rfl (by rw[List.length_map]) (HRO.o.imp id (fun⟨ad,e,h⟩=>⟨ad,e,fun j u hu=>(TW0.o.ak (HW.o.k)).cellOf (h j u hu)⟩)) (fun u hu=>by obtain⟨x,_,rfl⟩:=List.mem_map.1 hu;rfl) HML.o (by omega) ?_;intro v1 Z2 hown1 hkp1;obtain⟨xa1,xc1,rfl,_,_⟩:=cr hown1;replace HW:=ag (HW.o.keep hkp1);clear c6;have HOA:=ag hown1;have K02:=ag (K01.o.ak hkp1);clear hown1 hkp1 K01 HB5;have c6:=HW.o.c6;rw[et]at c6;refine hK.out _ _ trivial (fun hHeld=> ?_);clear hK K;try simp only[Act.put,sA,sB,sC]
                    refine t2 [4,8] ?_;refine t3 (fun K hK=> ?_) ?_
                    · clear hHeld
                      go_simp;refine hK.out _ _ trivial (fun hHeld=> ?_);clear hK K;try simp only[Act.put,sA,sB,sC]
                      refine t2 [8] ?_;refine t3 (fun K hK=> ?_) ?_
                      · clear hHeld
                        go_simp;have k3':ai Z2 (Z2.alloc (.cells #[.slice xa1 ql.length xc1] 64)) []:=(ai.refl Z2 []).alloc _;replace HW:=ag (HW.o.keep k3');clear c6;have HN:=ag (zx Z2 (.slice xa1 ql.length xc1) 64);have HOB:=ag (au HOA.o k3' (by simp));have K03:=ag (K02.o.ak k3');clear k3' HOA K02;generalize hZ3:Z2.alloc (.cells #[.slice xa1 ql.length xc1] 64)=Z3 at*;generalize Z2.heap.size=q2 at*;clear hZ3;have c6:=HW.o.c6;rw[et]at c6;refine hK.out _ _ trivial (fun hHeld=> ?_);clear hK K;try simp only[Act.put,sA,sB,sC]
                        refine t2 [9] ?_;refine t3 (fun K hK=> ?_) ?_
                        · clear hHeld
                          have HO:=HW.o.rows;have HWS2:=HW.o.k.size;rw[et,HAL.o]at HO;refine wp_append_own _ (.tmp 97) (.tmp 101) 55 rfl W0.heap.size 64 i61 (.slice none 0 0) 1 24 Tryz.underlying55 hi2 hz2 hs2 hb2' rfl (by decide) _ _ _ rfl HO ⟨q2,0,none⟩ 1 1 [.slice xa1 ql.length xc1] rfl rfl HN.o (uy rfl) (by unfold maxLen;omega) (by omega) HWS2 ?_;intro v' Z4 hown' hgrow3 _;obtain⟨va4,vc4,rfl,_,_⟩:=cr hown';have hg2:Z3.grownBy Z4 R'.va.ownBlock:=(by rw[et];exact hgrow3);have HF:=ag (HW0.o.more K03.o (Be HOB.o (HW0.o.k.size)) (fun b hb=>(ig HOB.o hb).2) hg2 (by rw[HAL.o];exact hown'));rw[HSN.o]at HF;have HBz:=ag (show Blk Z4 g 75 (kv R' f f.nv s')from(hg2.block g HW.o.blk.lt (fun e=>own_ne HW.o.rows HW.o.blk (by decide) e.symm)).trans HW.o.blk);have d0:=HBz.o.frozen 6;have d1:Z4.cell? ⟨g,6,none⟩=some R'.va:=(HBz.o.cell 6).trans rfl;rw[et]at d1;clear hg2 hown' hgrow3 HO HWS2 c6;refine hK.out _ _ trivial (fun hHeld=> ?_);clear hK K;try simp only[Act.put,sA,sB,sC]
                          refine tk (i:=10) (oi:=⟨some 103,.nilCheck (.tmp 93),_,_,_,_⟩) (v:= ?v5c10) rfl (Or.inl ⟨by rfl, ?y5c10⟩) hHeld ?r5c10
                          case y5c10=>(intro w hSw;clear hSw;go_simp;(try with_reducible rfl))
                          try simp only[Act.put,sA,sB,sC]
                          refine tk (i:=11) (oi:=⟨some 104,.fieldAddr 75 (.tmp 103) 4,_,_,_,_⟩) (v:= ?v5c11) rfl (Or.inl ⟨by rfl, ?y5c11⟩) hHeld ?r5c11
                          case y5c11=>(intro w hSw;clear hSw;go_simp;(try with_reducible rfl))
                          try simp only[Act.put,sA,sB,sC]
                          refine t1 12 fun K hK=> ?_;clear hHeld;go_simp;clear HW0 HW HN HOB K03 HBz d0 d1;refine hK.out _ _ trivial (fun hHeld=> ?_);clear hK K;try simp only[Act.put,sA,sB,sC]
                          refine wpAnyH_done (by kernel_rfl) ?_ _;clear hHeld;go_wp2;go_roundw
                          case rel=>exact⟨k3+1,by omega,by go_num,_,HF.o⟩
                          case measure=>simp[intOf];omega
                        exact t4
                      exact t4
                    refine t3 (fun K hK=> ?_) ?_
                    · clear hHeld
                      go_simp;have k3':ai Z2 (Z2.alloc (.cells #[.slice xa1 ql.length xc1] 64)) []:=(ai.refl Z2 []).alloc _;replace HW:=ag (HW.o.keep k3');clear c6;have HN:=ag (zx Z2 (.slice xa1 ql.length xc1) 64);have HOB:=ag (au HOA.o k3' (by simp));have K03:=ag (K02.o.ak k3');clear k3' HOA K02;generalize hZ3:Z2.alloc (.cells #[.slice xa1 ql.length xc1] 64)=Z3 at*;generalize Z2.heap.size=q2 at*;clear hZ3;have c6:=HW.o.c6;rw[et]at c6;refine hK.out _ _ trivial (fun hHeld=> ?_);clear hK K;try simp only[Act.put,sA,sB,sC]
                      refine t2 [4] ?_;refine t3 (fun K hK=> ?_) ?_
                      · clear hHeld
                        go_simp;refine hK.out _ _ trivial (fun hHeld=> ?_);clear hK K;try simp only[Act.put,sA,sB,sC]
                        refine t2 [9] ?_;refine t3 (fun K hK=> ?_) ?_
                        · clear hHeld
                          have HO:=HW.o.rows;have HWS2:=HW.o.k.size;rw[et,HAL.o]at HO;refine wp_append_own _ (.tmp 97) (.tmp 101) 55 rfl W0.heap.size 64 i61 (.slice none 0 0) 1 24 Tryz.underlying55 hi2 hz2 hs2 hb2' rfl (by decide) _ _ _ rfl HO ⟨q2,0,none⟩ 1 1 [.slice xa1 ql.length xc1] rfl rfl HN.o (uy rfl) (by unfold maxLen;omega) (by omega) HWS2 ?_;intro v' Z4 hown' hgrow3 _;obtain⟨va4,vc4,rfl,_,_⟩:=cr hown';have hg2:Z3.grownBy Z4 R'.va.ownBlock:=(by rw[et];exact hgrow3);have HF:=ag (HW0.o.more K03.o (Be HOB.o (HW0.o.k.size)) (fun b hb=>(ig HOB.o hb).2) hg2 (by rw[HAL.o];exact hown'));rw[HSN.o]at HF;have HBz:=ag (show Blk Z4 g 75 (kv R' f f.nv s')from(hg2.block g HW.o.blk.lt (fun e=>own_ne HW.o.rows HW.o.blk (by decide) e.symm)).trans HW.o.blk);have d0:=HBz.o.frozen 6;have d1:Z4.cell? ⟨g,6,none⟩=some R'.va:=(HBz.o.cell 6).trans rfl;rw[et]at d1;clear hg2 hown' hgrow3 HO HWS2 c6;refine hK.out _ _ trivial (fun hHeld=> ?_);clear hK K;try simp only[Act.put,sA,sB,sC]
                          refine tk (i:=10) (oi:=⟨some 103,.nilCheck (.tmp 93),_,_,_,_⟩) (v:= ?v5d10) rfl (Or.inl ⟨by rfl, ?y5d10⟩) hHeld ?r5d10
                          case y5d10=>(intro w hSw;clear hSw;go_simp;(try with_reducible rfl))
                          try simp only[Act.put,sA,sB,sC]
                          refine tk (i:=11) (oi:=⟨some 104,.fieldAddr 75 (.tmp 103) 4,_,_,_,_⟩) (v:= ?v5d11) rfl (Or.inl ⟨by rfl, ?y5d11⟩) hHeld ?r5d11
                          case y5d11=>(intro w hSw;clear hSw;go_simp;(try with_reducible rfl))
                          try simp only[Act.put,sA,sB,sC]
                          refine t1 12 fun K hK=> ?_;clear hHeld;go_simp;clear HW0 HW HN HOB K03 HBz d0 d1;refine hK.out _ _ trivial (fun hHeld=> ?_);clear hK K;try simp only[Act.put,sA,sB,sC]
                          refine wpAnyH_done (by kernel_rfl) ?_ _;clear hHeld;go_wp2;go_roundw
                          case rel=>exact⟨k3+1,by omega,by go_num,_,HF.o⟩
                          case measure=>simp[intOf];omega
                        exact t4
                      exact t4
                    exact t4
                  exact t4
                exact t4
              · have hltz3:¬(k3:Int)<(nr:Int):=by omega
                have hkn3:k3=(i.arrays.2.map Prod.snd).length:=(by rw[List.length_map];have:=HNR.o;omega);rw[hkn3,List.take_length,←hst,argsM_end]at HW;clear hkn3;go_wp2;go_ret;exact⟨g,R',rfl,HW.o.lower TW0.o⟩
end Go.Proofs.YtjllbchfojonhaaGreatDoor
