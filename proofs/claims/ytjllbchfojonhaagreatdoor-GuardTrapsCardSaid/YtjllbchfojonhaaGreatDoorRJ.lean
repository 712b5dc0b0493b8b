/- A run; contract; a little typed, joined program and a right input: what a run wants; an input, and a program with its numbers, opened. -/
import Derived.Test.YtjllbchfojonhaaGreatDoorRF
import Derived.Test.YtjllbchfojonhaaGreatDoorRI
import Derived.Test.YtjllbchfojonhaaGreatDoorRH
import Derived.Test.YtjllbchfojonhaaGreatDoorTY
import Derived.Deep.Cut
set_option linter.unusedVariables false
set_option linter.unusedSimpArgs false
set_option maxRecDepth 100000
set_option maxHeartbeats 200000000
namespace Go.Proofs.YtjllbchfojonhaaGreatDoor
open Go.RowKit
theorem runM_snoc (blk:Nat→df) (k:Nat) (s:StM):um blk (k+1) s=if(um blk k s).ended=true then um blk k s else Da blk (um blk k s):=by
 induction k generalizing s with
 |zero=>rfl
 |succ k ih=>
  show(if s.ended=true then s else um blk (k+1) (Da blk s))=_;by_cases h:s.ended=true
  ·have e:um blk (k+1) s=s:=(by show(if s.ended=true then s else _)=s;rw[if_pos h]);rw[if_pos h,e,if_pos h]
  ·have e:um blk (k+1) s=um blk k (Da blk s):=(by show(if s.ended=true then s else _)=_;rw[if_neg h]);rw[if_neg h,e,ih]
theorem runM_stop (blk:Nat→df) {k m:Nat} {s:StM} (h:(um blk k s).ended=true) (hkm:k≤m):um blk m s=um blk k s:=by
 induction m with
 |zero=>rw[show k=0 by omega]
 |succ m ih=>
  by_cases e:k=m+1
  ·rw[e]
  ·rw[runM_snoc,ih (by omega),if_pos h]
def SameS (s t:StM):Prop:=t.out.steps=s.out.steps
theorem sames_ite {s a b:StM} {c:Prop} [Decidable c] (h1:SameS s a) (h2:SameS s b):SameS s (if c then a else b):=by split<;>assumption
theorem inst_steps (s:StM) (x:cu):(di s x).out.steps=s.out.steps:=by
 refine sames_ite ?_ ?_
 ·unfold qf;simp only
  repeat'(first |exact rfl|apply sames_ite)
 ·unfold vg;simp only
  repeat'(first |exact rfl|apply sames_ite)
theorem nth_memI {l:List cu} {i:Nat} (h:i<l.length):l[i]! ∈l:=by rw[getElem!_pos l i h];exact List.getElem_mem h
structure RunInv (blk:Nat→df) (nb n k:Nat) (s:StM):Prop where
 good:kg n k s
 st:s.out.steps≤k
 bl:s.block<nb
 pc:s.pc≤(blk s.block).insts.2.length
theorem phis_good {n K:Nat} {old:StM} (ho:kg n K old) {b:Nat} {ps:List jk} (hp:∀p∈ps,PhiE n b p) (s:StM) (h:kg n K s) (ha:s.arrays=old.arrays:=by rfl):kg n K (lu ps old s b)∧(lu ps old s b).out=s.out:=by
 induction ps generalizing s with
 |nil=>exact⟨h,rfl⟩
 |cons p ps ih=>
  obtain⟨a,han,_,e⟩:=phiE_z (hp p (List.mem_cons_self ..));have hA:=ho.A (v:=(a:Int)) (by omega);rw[←ha]at hA;have r:=ih (fun q hq=>hp q (List.mem_cons_of_mem _ hq)) (((s.jg p.dst (old.I a)).lq p.dst (old.B a)).mg p.dst (old.A a)) (((h.jg _ (ho.I _)).lq _ _).mg _ hA) ha;unfold lu at r ⊢;rw[List.foldl_cons,e];exact⟨r.1,r.2⟩
theorem step_inv {blk:Nat→df} {nb n k:Nat} {ty:Int→Int} {s:StM} (hphi:∀a b,a<nb→b<nb→kw (blk a) (b:Int)=true→∀p∈(blk b).phis.2,PhiE n a p) (hok:∀b,b<nb→Dg nb n ty (blk b)) (hnum:∀b,b<nb→∀x∈(blk b).insts.2,inI x.num=true) (h:RunInv blk nb n k s):RunInv blk nb n (k+1) (Da blk s):=by
 have gT:kg n k s.tick:=⟨h.good.f.of rfl rfl rfl,h.good.i,h.good.e,h.good.z,h.good.a,h.good.m,h.good.t,h.good.c,h.good.k⟩;have hB:=hok _ h.bl;have hst:=h.st;have ht:s.tick.out.steps≤k+1:=(by show s.out.steps+1≤k+1;omega);rw[step_eq];by_cases hp:s.pc<(blk s.block).insts.2.length
 ·rw[if_pos hp];have hm:=nth_memI hp;have gN:kg n k s.tick.next:=⟨gT.f.of rfl rfl rfl,gT.i,gT.e,gT.z,gT.a,gT.m,gT.t,gT.c,gT.k⟩;obtain⟨e1,e2⟩:=inst_stays s.tick.next (blk s.block).insts.2[s.pc]!;exact⟨inst_good gN (hB.inst _ hm) (hnum _ h.bl _ hm),by rw[inst_steps];exact ht,by rw[e1];exact h.bl,by rw[e1,e2];exact hp⟩
 ·rw[if_neg hp]
  have enter:∀tb:Nat,tb<nb→kw (blk s.block) (tb:Int)=true→RunInv blk nb n (k+1) (qw blk s.tick tb):=fun tb hb hl=>by
   have hp:=hphi _ _ h.bl hb hl;rw[enter_all (s:=s.tick) hp];obtain⟨o1,o2⟩:=phis_good (old:=s.tick) gT hp _ gT;exact⟨⟨o1.f.of rfl rfl rfl,o1.i,o1.e,o1.z,o1.a,o1.m,o1.t,o1.c,fun x hx=>Nat.le_succ_of_le (o1.k x hx)⟩,by show(lu (blk tb).phis.2 s.tick s.tick s.block).out.steps≤_;rw[o2];exact ht,hb,Nat.zero_le _⟩
  by_cases h2:(blk s.block).kind=2
  ·rw[if_pos h2];exact⟨⟨gT.f.of rfl rfl rfl,gT.i,gT.e,gT.z,gT.a,gT.m,gT.t,gT.c,fun x hx=>Nat.le_succ_of_le (gT.k x hx)⟩,ht,h.bl,h.pc⟩
  ·rw[if_neg h2];split
   ·rename_i h3;rcases hB.kind with hk|hk|hk
    ·have:=hB.jump hk;exact enter _ (by omega) (by unfold kw;rw[show(((blk s.block).to0.toNat:Nat):Int)=(blk s.block).to0 by omega,hk];simp)
    ·have:=hB.iff hk;exact enter _ (by omega) (by unfold kw;rw[show(((blk s.block).to0.toNat:Nat):Int)=(blk s.block).to0 by omega,hk];simp)
    ·exact absurd hk h2
   ·rename_i h3;rcases hB.kind with hk|hk|hk
    ·exact absurd (Or.inl hk) h3
    ·have:=hB.iff hk;exact enter _ (by omega) (by unfold kw;rw[show(((blk s.block).to1.toNat:Nat):Int)=(blk s.block).to1 by omega,hk];simp)
    ·exact absurd hk h2
theorem run_inv {blk:Nat→df} {nb n:Nat} {ty:Int→Int} {s:StM} (hphi:∀a b,a<nb→b<nb→kw (blk a) (b:Int)=true→∀p∈(blk b).phis.2,PhiE n a p) (hok:∀b,b<nb→Dg nb n ty (blk b)) (hnum:∀b,b<nb→∀x∈(blk b).insts.2,inI x.num=true) (h:RunInv blk nb n 0 s) (k:Nat):RunInv blk nb n k (um blk k s):=by
 induction k with
 |zero=>exact h
 |succ k ih=>
  rw[runM_snoc];split
  ·exact⟨ih.good.more (Nat.le_succ k),Nat.le_succ_of_le ih.st,ih.bl,ih.pc⟩
  ·exact step_inv hphi hok hnum ih
def outC (vt:Value) (o:OutM):Array Value:=#[.int .i64 o.ending,.int .i64 o.value,.int .i64 o.trap,vt,.int .i64 (o.steps:Nat),.int .i64 (o.checks[0]! :Nat),.int .i64 (o.checks[1]! :Nat),.int .i64 (o.checks[2]! :Nat),.int .i64 (o.checks[3]! :Nat),.int .i64 (o.checks[4]! :Nat),.int .i64 (o.checks[5]! :Nat),.int .i64 (o.checks[6]! :Nat),.int .i64 (o.checks[7]! :Nat)]
def RunOut (w:World) (o:OutM) (e:Ending) (w':World):Prop:=∃vt,e= .returned (.agg (outC vt o))∧Row w' 1 vt (o.trace.map intCells)∧ai w w' []∧∃base,w'.ownsRow base 2 1 vt o.trace.length (o.trace.map (Value.int .i64))
structure RunOK (w:World) (f:ax) (i:ku):Prop where
 fa:cz w f
 ia:Ad w i
 phi:∀a b,a<f.nb→b<f.nb→kw f.blocks.2[a]! (b:Int)=true→∀p∈f.blocks.2[b]!.phis.2,PhiE f.nv a p
 plen:∀b,b<f.nb→f.blocks.2[b]!.phis.2.length≤100000
 ok:∀b,b<f.nb→Dg f.nb f.nv f.tyI f.blocks.2[b]!
 num:∀b,b<f.nb→∀x∈f.blocks.2[b]!.insts.2,inI x.num=true
 long:∀b,b<f.nb→f.blocks.2[b]!.insts.2.length≤100000
 nb:0<f.nb
 nv:f.nv≤1000
 na:i.args.2.length≤f.nv
 nr:i.arrays.2.length≤1000
 el:∀p∈i.arrays.2,p.2.length≤1000
 good:kg f.nv 0 (qg f.nv f.tyI i.args.2 (i.arrays.2.map Prod.snd))
theorem RunOK.keep {w w':World} {f:ax} {i:ku} (h:RunOK w f i) (k:ai w w' []):RunOK w' f i:=⟨h.fa.keep k,h.ia.keep k,h.phi,h.plen,h.ok,h.num,h.long,h.nb,h.nv,h.na,h.nr,h.el,h.good⟩
def runOf (f:ax) (i:ku) (k:Nat):OutM:=(um (fun b=>f.blocks.2[b]!) k (qg f.nv f.tyI i.args.2 (i.arrays.2.map Prod.snd))).out
theorem run_any (f:ax) (i:ku) (k:Nat) (w:World) (h:RunOK w f i) (hk:k≤50000):Calls Tryz.prog 23 #[f.val,i.val,.int .i64 (k:Nat)] w (RunOut w (runOf f i k)):=by
 have HO:=ag h;obtain⟨a0,c0,e0,-,-,-⟩:=h.fa.vars.open_;obtain⟨a1,c1,e1,-,-,-⟩:=(show Row w 1 f.params.1 (f.params.2.map intCells)from h.fa.params).open_;obtain⟨a2,c2,e2,-,-,-⟩:=h.fa.blocks.open_;obtain⟨b0,d0,g0,-,-,-⟩:=h.ia.args.open_;obtain⟨b1,d1,g1,-,-,-⟩:=h.ia.arrays.open_;have hval:f.val= .agg #[.slice a0 f.nv c0,.slice a1 f.np c1,.slice a2 f.nb c2]:=(by unfold ax.val ax.nv ax.np ax.nb;rw[e0,e1,e2]);have hvi:i.val= .agg #[.slice b0 i.args.2.length d0,.slice b1 i.arrays.2.length d1]:=(by unfold ku.val;rw[g0,g1]);have CB:=ag (fun W (hW:RunOK W f i)=>begin_any f i W hW.fa hW.ia hW.na hW.nv (by have:=hW.na;have:=hW.nv;omega) hW.nr hW.el);rw[hval,hvi]at CB;rw[hval,hvi];clear h e0 e1 e2 g0 g1 hval hvi;generalize hna:i.args.2.length=na at*;generalize hnr:i.arrays.2.length=nr at*;clear hna hnr;have hk0:ai w (w.alloc (.cells #[.slice a0 f.nv c0,.slice a1 f.np c1,.slice a2 f.nb c2] 26)) []:=(ai.refl _ []).alloc _;have bb0:=Blk.new w 26 #[.slice a0 f.nv c0,.slice a1 f.np c1,.slice a2 f.nb c2];have hk1:ai (w.alloc (.cells #[.slice a0 f.nv c0,.slice a1 f.np c1,.slice a2 f.nb c2] 26)) ((w.alloc (.cells #[.slice a0 f.nv c0,.slice a1 f.np c1,.slice a2 f.nb c2] 26)).alloc (.cells #[.slice b0 na d0,.slice b1 nr d1] 57)) []:=(ai.refl _ []).alloc _;have bb1:=Blk.new (w.alloc (.cells #[.slice a0 f.nv c0,.slice a1 f.np c1,.slice a2 f.nb c2] 26)) 57 #[.slice b0 na d0,.slice b1 nr d1];rw[show(w.alloc (.cells #[.slice a0 f.nv c0,.slice a1 f.np c1,.slice a2 f.nb c2] 26)).heap.size=w.heap.size+1 by show(Array.push _ _).size=_;simp[Array.size_push]]at bb1;have hk2:ai ((w.alloc (.cells #[.slice a0 f.nv c0,.slice a1 f.np c1,.slice a2 f.nb c2] 26)).alloc (.cells #[.slice b0 na d0,.slice b1 nr d1] 57)) (((w.alloc (.cells #[.slice a0 f.nv c0,.slice a1 f.np c1,.slice a2 f.nb c2] 26)).alloc (.cells #[.slice b0 na d0,.slice b1 nr d1] 57)).alloc (.cells #[.int .i64 0,.int .i64 0,.int .i64 0,.slice none 0 0,.int .i64 0,.int .i64 0,.int .i64 0,.int .i64 0,.int .i64 0,.int .i64 0,.int .i64 0,.int .i64 0,.int .i64 0] 67)) []:=(ai.refl _ []).alloc _;have bb2:=Blk.new ((w.alloc (.cells #[.slice a0 f.nv c0,.slice a1 f.np c1,.slice a2 f.nb c2] 26)).alloc (.cells #[.slice b0 na d0,.slice b1 nr d1] 57)) 67 #[.int .i64 0,.int .i64 0,.int .i64 0,.slice none 0 0,.int .i64 0,.int .i64 0,.int .i64 0,.int .i64 0,.int .i64 0,.int .i64 0,.int .i64 0,.int .i64 0,.int .i64 0];rw[show((w.alloc (.cells #[.slice a0 f.nv c0,.slice a1 f.np c1,.slice a2 f.nb c2] 26)).alloc (.cells #[.slice b0 na d0,.slice b1 nr d1] 57)).heap.size=w.heap.size+2 by show(Array.push _ _).size=_;simp[Array.size_push]]at bb2;have Bl:=ag ((bb0.keep hk1 (by simp)).keep hk2 (by simp));have Bm:=ag (bb1.keep hk2 (by simp));have Br:=ag bb2;have HK:=ag ((hk0.ak hk1).ak hk2);obtain⟨l0,l1,l2⟩:=Bl.o.c3;obtain⟨m0,m1⟩:=Bm.o.c2;obtain⟨r0,r1,r2,r3,r4,r5,r6,r7,r8,r9,r10,r11,r12⟩:=Br.o.c13;simp at l0 l1 l2 m0 m1 r0 r1 r2 r3 r4 r5 r6 r7 r8 r9 r10 r11 r12;clear hk0 hk1 hk2 bb0 bb1 bb2;go_enter Tryz.func23,Tryz.ntmps23;go_upto_region 1 with(fail)
 clear l0 l1 l2 m0 m1 r0 r1 r2 r3 r4 r5 r6 r7 r8 r9 r10 r11 r12;generalize(((w.alloc (.cells #[.slice a0 f.nv c0,.slice a1 f.np c1,.slice a2 f.nb c2] 26)).alloc (.cells #[.slice b0 na d0,.slice b1 nr d1] 57)).alloc (.cells #[.int .i64 0,.int .i64 0,.int .i64 0,.slice none 0 0,.int .i64 0,.int .i64 0,.int .i64 0,.int .i64 0,.int .i64 0,.int .i64 0,.int .i64 0,.int .i64 0,.int .i64 0] 67))=W0 at*;have Bl_W0:=Bl;have Bm_W0:=Bm;have Br_W0:=Br;have TW0:=HK;clear HK;have HK:=ag (ai.refl W0 []);obtain⟨l0,l1,l2⟩:=Bl.o.c3;obtain⟨m0,m1⟩:=Bm.o.c2;obtain⟨r0,r1,r2,r3,r4,r5,r6,r7,r8,r9,r10,r11,r12⟩:=Br.o.c13;simp at l0 l1 l2 m0 m1 r0 r1 r2 r3 r4 r5 r6 r7 r8 r9 r10 r11 r12;have HO0:=ag (HO.o.keep TW0.o);have HIV:=ag (fun q=>run_inv (blk:=fun b=>f.blocks.2[b]!) (s:=qg f.nv f.tyI i.args.2 (i.arrays.2.map Prod.snd)) HO.o.phi HO.o.ok HO.o.num ⟨HO.o.good,Nat.le_refl _,HO.o.nb,Nat.zero_le _⟩ q);have HSN:=ag (runM_snoc (fun b=>f.blocks.2[b]!));have HSP:=ag (fun(q:Nat) (s:StM) h=>runM_stop (fun b=>f.blocks.2[b]!) (k:=q) (m:=k) (s:=s) h);generalize hs0:qg f.nv f.tyI i.args.2 (i.arrays.2.map Prod.snd)=s0 at*;have HRO:=ag (show runOf f i k=(um (fun b=>f.blocks.2[b]!) k s0).out by unfold runOf;rw[hs0]);clear hs0;go_wp2_with (first |(go_at_call 26;go_must(refine(CB.o _ HO0.o).mono ?_;rintro e X ⟨g,R,rfl,hW⟩;have HB:=ag hW;clear hW CB l0 l1 l2 m0 m1)))
 clear r0 r1 r2 r3 r4 r5 r6 r7 r8 r9 r10 r11 r12;go_loopw [8] (fun i' wr=>∃q:Nat,q≤k∧i'= .int .i64 q∧∃R',WAt W0 wr g R' f f.nv (um (fun b=>f.blocks.2[b]!) q s0)) (fun i' _=>k -(intOf i').toNat)
 case atStart=>exact⟨0,Nat.zero_le _,rfl,R,HB.o⟩
 case round=>
  obtain⟨q,hq,rfl,R',hW⟩:=hrel;clear HB;have HW:=ag hW;clear hW;have HI:=ag (HIV.o q);have HS1:=ag (HSN.o q s0);have HS2:=ag (fun h=>HSP.o q s0 h hq);generalize hsq:um (fun b=>f.blocks.2[b]!) q s0=s at*;have c22:=HW.o.c22;by_cases hlt:q<k
  ·have hltz:(q:Int)<(k:Int):=(by omega);have hbd:q≤50000:=(by omega);cases hen:s.ended
   ·rw[hen]at c22;have HE1:=ag (HS1.o.trans (if_neg (by rw[hen];decide)));go_wp2_with (first |(go_at_call 27;go_must(refine(step_any W0 wr g R' f f.nv q f.nb f.tyI s HW.o HI.o.good HO0.o.fa HI.o.bl rfl (HO.o.ok _ HI.o.bl) (fun b hb hl=>HO.o.phi _ b HI.o.bl hb hl) HO.o.plen (HO.o.num _ HI.o.bl) (by omega) (by have:=HI.o.st;omega) (HO.o.long _ HI.o.bl) HI.o.pc HO.o.nv).mono ?_;rintro e wx ⟨rfl,R2,hR⟩)))
    go_roundw
    case rel=>exact⟨q+1,by omega,by go_num,R2,by rw[HE1.o];exact hR⟩
    case measure=>simp[intOf];omega
   ·rw[hen]at c22;have HQ:=ag (HS2.o hen);obtain⟨ta,tc,et⟩:=HW.o.tform;have d0:wr.cell? ⟨g,9,none⟩=some (.int .i64 s.out.ending):=(HW.o.blk.cell 9).trans rfl;have d1:wr.cell? ⟨g,10,none⟩=some (.int .i64 s.out.value):=(HW.o.blk.cell 10).trans rfl;have d2:wr.cell? ⟨g,11,none⟩=some (.int .i64 s.out.trap):=(HW.o.blk.cell 11).trans rfl;have d3:=HW.o.c12;rw[et]at d3;have d4:=HW.o.c13;have d5:wr.cell? ⟨g,14,none⟩=some (.int .i64 (s.out.checks[0]! :Nat)):=(HW.o.blk.cell 14).trans rfl;have d6:wr.cell? ⟨g,15,none⟩=some (.int .i64 (s.out.checks[1]! :Nat)):=(HW.o.blk.cell 15).trans rfl;have d7:wr.cell? ⟨g,16,none⟩=some (.int .i64 (s.out.checks[2]! :Nat)):=(HW.o.blk.cell 16).trans rfl;have d8:wr.cell? ⟨g,17,none⟩=some (.int .i64 (s.out.checks[3]! :Nat)):=(HW.o.blk.cell 17).trans rfl;have d9:wr.cell? ⟨g,18,none⟩=some (.int .i64 (s.out.checks[4]! :Nat)):=(HW.o.blk.cell 18).trans rfl;have d10:wr.cell? ⟨g,19,none⟩=some (.int .i64 (s.out.checks[5]! :Nat)):=(HW.o.blk.cell 19).trans rfl;have d11:wr.cell? ⟨g,20,none⟩=some (.int .i64 (s.out.checks[6]! :Nat)):=(HW.o.blk.cell 20).trans rfl;have d12:wr.cell? ⟨g,21,none⟩=some (.int .i64 (s.out.checks[7]! :Nat)):=(HW.o.blk.cell 21).trans rfl;have Br:=ag (Br_W0.o.keep HW.o.k (by simp));obtain⟨r0,r1,r2,r3,r4,r5,r6,r7,r8,r9,r10,r11,r12⟩:=Br.o.c13;have v0:=Br.o.frozen 0;have v1:=Br.o.frozen 1;have v2:=Br.o.frozen 2;have v3:=Br.o.frozen 3;have v4:=Br.o.frozen 4;have v5:=Br.o.frozen 5;have v6:=Br.o.frozen 6;have v7:=Br.o.frozen 7;have v8:=Br.o.frozen 8;have v9:=Br.o.frozen 9;have v10:=Br.o.frozen 10;have v11:=Br.o.frozen 11;have v12:=Br.o.frozen 12;simp at r0 r1 r2 r3 r4 r5 r6 r7 r8 r9 r10 r11 r12;have HOC:=ag (show outC (.slice ta s.out.trace.length tc) s.out=#[.int .i64 s.out.ending,.int .i64 s.out.value,.int .i64 s.out.trap,.slice ta s.out.trace.length tc,.int .i64 (s.out.steps:Nat),.int .i64 (s.out.checks[0]! :Nat),.int .i64 (s.out.checks[1]! :Nat),.int .i64 (s.out.checks[2]! :Nat),.int .i64 (s.out.checks[3]! :Nat),.int .i64 (s.out.checks[4]! :Nat),.int .i64 (s.out.checks[5]! :Nat),.int .i64 (s.out.checks[6]! :Nat),.int .i64 (s.out.checks[7]! :Nat)]from rfl);generalize s.out.checks[0]! =k0 at*;generalize s.out.checks[1]! =k1 at*;generalize s.out.checks[2]! =k2 at*;generalize s.out.checks[3]! =k3 at*;generalize s.out.checks[4]! =k4 at*;generalize s.out.checks[5]! =k5 at*;generalize s.out.checks[6]! =k6 at*;generalize s.out.checks[7]! =k7 at*;have hbx:=(((((((((((((Br.o.gu 0 (.int .i64 s.out.ending)).gu 1 (.int .i64 s.out.value)).gu 2 (.int .i64 s.out.trap)).gu 3 (.slice ta s.out.trace.length tc)).gu 4 (.int .i64 (s.out.steps:Nat))).gu 5 (.int .i64 (k0:Nat))).gu 6 (.int .i64 (k1:Nat))).gu 7 (.int .i64 (k2:Nat))).gu 8 (.int .i64 (k3:Nat))).gu 9 (.int .i64 (k4:Nat))).gu 10 (.int .i64 (k5:Nat))).gu 11 (.int .i64 (k6:Nat))).gu 12 (.int .i64 (k7:Nat)));simp only[List.setIfInBounds_toArray,List.set_cons_zero,List.set_cons_succ]at hbx;have HBX:=ag hbx;clear hbx;go_wp2;rw[show w.heap.size+1+1=w.heap.size+2 from rfl];have HKW:=ag (show ai w (World.setCell (World.setCell (World.setCell (World.setCell (World.setCell (World.setCell (World.setCell (World.setCell (World.setCell (World.setCell (World.setCell (World.setCell (World.setCell wr ⟨w.heap.size+2,0,none⟩ (.int .i64 s.out.ending)) ⟨w.heap.size+2,1,none⟩ (.int .i64 s.out.value)) ⟨w.heap.size+2,2,none⟩ (.int .i64 s.out.trap)) ⟨w.heap.size+2,3,none⟩ (.slice ta s.out.trace.length tc)) ⟨w.heap.size+2,4,none⟩ (.int .i64 (s.out.steps:Nat))) ⟨w.heap.size+2,5,none⟩ (.int .i64 (k0:Nat))) ⟨w.heap.size+2,6,none⟩ (.int .i64 (k1:Nat))) ⟨w.heap.size+2,7,none⟩ (.int .i64 (k2:Nat))) ⟨w.heap.size+2,8,none⟩ (.int .i64 (k3:Nat))) ⟨w.heap.size+2,9,none⟩ (.int .i64 (k4:Nat))) ⟨w.heap.size+2,10,none⟩ (.int .i64 (k5:Nat))) ⟨w.heap.size+2,11,none⟩ (.int .i64 (k6:Nat))) ⟨w.heap.size+2,12,none⟩ (.int .i64 (k7:Nat))) [] by repeat'(first |with_reducible exact(TW0.o.ak HW.o.k)|(with_reducible refine ai.setCell ?_ (.inr (by simp)) _)));have HKR:=ag (show ai wr (World.setCell (World.setCell (World.setCell (World.setCell (World.setCell (World.setCell (World.setCell (World.setCell (World.setCell (World.setCell (World.setCell (World.setCell (World.setCell wr ⟨w.heap.size+2,0,none⟩ (.int .i64 s.out.ending)) ⟨w.heap.size+2,1,none⟩ (.int .i64 s.out.value)) ⟨w.heap.size+2,2,none⟩ (.int .i64 s.out.trap)) ⟨w.heap.size+2,3,none⟩ (.slice ta s.out.trace.length tc)) ⟨w.heap.size+2,4,none⟩ (.int .i64 (s.out.steps:Nat))) ⟨w.heap.size+2,5,none⟩ (.int .i64 (k0:Nat))) ⟨w.heap.size+2,6,none⟩ (.int .i64 (k1:Nat))) ⟨w.heap.size+2,7,none⟩ (.int .i64 (k2:Nat))) ⟨w.heap.size+2,8,none⟩ (.int .i64 (k3:Nat))) ⟨w.heap.size+2,9,none⟩ (.int .i64 (k4:Nat))) ⟨w.heap.size+2,10,none⟩ (.int .i64 (k5:Nat))) ⟨w.heap.size+2,11,none⟩ (.int .i64 (k6:Nat))) ⟨w.heap.size+2,12,none⟩ (.int .i64 (k7:Nat))) [w.heap.size+2] by repeat'(first |with_reducible exact ai.refl _ _|(with_reducible refine ai.setCell ?_ (.inl (by simp)) _)));have HSZ:=ag (show w.heap.size+3≤W0.heap.size by have:=Br_W0.o.lt;omega);generalize(World.setCell (World.setCell (World.setCell (World.setCell (World.setCell (World.setCell (World.setCell (World.setCell (World.setCell (World.setCell (World.setCell (World.setCell (World.setCell wr ⟨w.heap.size+2,0,none⟩ (.int .i64 s.out.ending)) ⟨w.heap.size+2,1,none⟩ (.int .i64 s.out.value)) ⟨w.heap.size+2,2,none⟩ (.int .i64 s.out.trap)) ⟨w.heap.size+2,3,none⟩ (.slice ta s.out.trace.length tc)) ⟨w.heap.size+2,4,none⟩ (.int .i64 (s.out.steps:Nat))) ⟨w.heap.size+2,5,none⟩ (.int .i64 (k0:Nat))) ⟨w.heap.size+2,6,none⟩ (.int .i64 (k1:Nat))) ⟨w.heap.size+2,7,none⟩ (.int .i64 (k2:Nat))) ⟨w.heap.size+2,8,none⟩ (.int .i64 (k3:Nat))) ⟨w.heap.size+2,9,none⟩ (.int .i64 (k4:Nat))) ⟨w.heap.size+2,10,none⟩ (.int .i64 (k5:Nat))) ⟨w.heap.size+2,11,none⟩ (.int .i64 (k6:Nat))) ⟨w.heap.size+2,12,none⟩ (.int .i64 (k7:Nat)))=V at*;obtain⟨z0,z1,z2,z3,z4,z5,z6,z7,z8,z9,z10,z11,z12⟩:=HBX.o.c13;simp at z0 z1 z2 z3 z4 z5 z6 z7 z8 z9 z10 z11 z12;refine bodyPost_ret (v:= .agg #[.int .i64 s.out.ending,.int .i64 s.out.value,.int .i64 s.out.trap,.slice ta s.out.trace.length tc,.int .i64 (s.out.steps:Nat),.int .i64 (k0:Nat),.int .i64 (k1:Nat),.int .i64 (k2:Nat),.int .i64 (k3:Nat),.int .i64 (k4:Nat),.int .i64 (k5:Nat),.int .i64 (k6:Nat),.int .i64 (k7:Nat)]) (by simp[results,Tryz.results23,go_sem,z0,z1,z2,z3,z4,z5,z6,z7,z8,z9,z10,z11,z12]) rfl ⟨.slice ta s.out.trace.length tc,by rw[HRO.o,HQ.o,HOC.o], ?_,HKW.o, ?_⟩
    ·rw[HRO.o,HQ.o];have hro:=om (au HW.o.trace HKR.o (fun b hb=>by have:=(ig HW.o.trace hb).2;have:=HSZ.o;simp;omega));rw[et,List.map_map]at hro;exact hro
    ·rw[HRO.o,HQ.o];have hro:=au HW.o.trace HKR.o (fun b hb=>by have:=(ig HW.o.trace hb).2;have:=HSZ.o;simp;omega);rw[et]at hro;exact⟨_,hro⟩
  ·have hltz:¬(q:Int)<(k:Int):=(by omega);have HQ:=ag (show um (fun b=>f.blocks.2[b]!) k s0=s by rw[show k=q by omega];exact hsq);clear c22;obtain⟨ta,tc,et⟩:=HW.o.tform;have d0:wr.cell? ⟨g,9,none⟩=some (.int .i64 s.out.ending):=(HW.o.blk.cell 9).trans rfl;have d1:wr.cell? ⟨g,10,none⟩=some (.int .i64 s.out.value):=(HW.o.blk.cell 10).trans rfl;have d2:wr.cell? ⟨g,11,none⟩=some (.int .i64 s.out.trap):=(HW.o.blk.cell 11).trans rfl;have d3:=HW.o.c12;rw[et]at d3;have d4:=HW.o.c13;have d5:wr.cell? ⟨g,14,none⟩=some (.int .i64 (s.out.checks[0]! :Nat)):=(HW.o.blk.cell 14).trans rfl;have d6:wr.cell? ⟨g,15,none⟩=some (.int .i64 (s.out.checks[1]! :Nat)):=(HW.o.blk.cell 15).trans rfl;have d7:wr.cell? ⟨g,16,none⟩=some (.int .i64 (s.out.checks[2]! :Nat)):=(HW.o.blk.cell 16).trans rfl;have d8:wr.cell? ⟨g,17,none⟩=some (.int .i64 (s.out.checks[3]! :Nat)):=(HW.o.blk.cell 17).trans rfl;have d9:wr.cell? ⟨g,18,none⟩=some (.int .i64 (s.out.checks[4]! :Nat)):=(HW.o.blk.cell 18).trans rfl;have d10:wr.cell? ⟨g,19,none⟩=some (.int .i64 (s.out.checks[5]! :Nat)):=(HW.o.blk.cell 19).trans rfl;have d11:wr.cell? ⟨g,20,none⟩=some (.int .i64 (s.out.checks[6]! :Nat)):=(HW.o.blk.cell 20).trans rfl;have d12:wr.cell? ⟨g,21,none⟩=some (.int .i64 (s.out.checks[7]! :Nat)):=(HW.o.blk.cell 21).trans rfl;have Br:=ag (Br_W0.o.keep HW.o.k (by simp));obtain⟨r0,r1,r2,r3,r4,r5,r6,r7,r8,r9,r10,r11,r12⟩:=Br.o.c13;have v0:=Br.o.frozen 0;have v1:=Br.o.frozen 1;have v2:=Br.o.frozen 2;have v3:=Br.o.frozen 3;have v4:=Br.o.frozen 4;have v5:=Br.o.frozen 5;have v6:=Br.o.frozen 6;have v7:=Br.o.frozen 7;have v8:=Br.o.frozen 8;have v9:=Br.o.frozen 9;have v10:=Br.o.frozen 10;have v11:=Br.o.frozen 11;have v12:=Br.o.frozen 12;simp at r0 r1 r2 r3 r4 r5 r6 r7 r8 r9 r10 r11 r12;have HOC:=ag (show outC (.slice ta s.out.trace.length tc) s.out=#[.int .i64 s.out.ending,.int .i64 s.out.value,.int .i64 s.out.trap,.slice ta s.out.trace.length tc,.int .i64 (s.out.steps:Nat),.int .i64 (s.out.checks[0]! :Nat),.int .i64 (s.out.checks[1]! :Nat),.int .i64 (s.out.checks[2]! :Nat),.int .i64 (s.out.checks[3]! :Nat),.int .i64 (s.out.checks[4]! :Nat),.int .i64 (s.out.checks[5]! :Nat),.int .i64 (s.out.checks[6]! :Nat),.int .i64 (s.out.checks[7]! :Nat)]from rfl);generalize s.out.checks[0]! =k0 at*;generalize s.out.checks[1]! =k1 at*;generalize s.out.checks[2]! =k2 at*;generalize s.out.checks[3]! =k3 at*;generalize s.out.checks[4]! =k4 at*;generalize s.out.checks[5]! =k5 at*;generalize s.out.checks[6]! =k6 at*;generalize s.out.checks[7]! =k7 at*;have hbx:=(((((((((((((Br.o.gu 0 (.int .i64 s.out.ending)).gu 1 (.int .i64 s.out.value)).gu 2 (.int .i64 s.out.trap)).gu 3 (.slice ta s.out.trace.length tc)).gu 4 (.int .i64 (s.out.steps:Nat))).gu 5 (.int .i64 (k0:Nat))).gu 6 (.int .i64 (k1:Nat))).gu 7 (.int .i64 (k2:Nat))).gu 8 (.int .i64 (k3:Nat))).gu 9 (.int .i64 (k4:Nat))).gu 10 (.int .i64 (k5:Nat))).gu 11 (.int .i64 (k6:Nat))).gu 12 (.int .i64 (k7:Nat)));simp only[List.setIfInBounds_toArray,List.set_cons_zero,List.set_cons_succ]at hbx;have HBX:=ag hbx;clear hbx;go_wp2;rw[show w.heap.size+1+1=w.heap.size+2 from rfl];have HKW:=ag (show ai w (World.setCell (World.setCell (World.setCell (World.setCell (World.setCell (World.setCell (World.setCell (World.setCell (World.setCell (World.setCell (World.setCell (World.setCell (World.setCell wr ⟨w.heap.size+2,0,none⟩ (.int .i64 s.out.ending)) ⟨w.heap.size+2,1,none⟩ (.int .i64 s.out.value)) ⟨w.heap.size+2,2,none⟩ (.int .i64 s.out.trap)) ⟨w.heap.size+2,3,none⟩ (.slice ta s.out.trace.length tc)) ⟨w.heap.size+2,4,none⟩ (.int .i64 (s.out.steps:Nat))) ⟨w.heap.size+2,5,none⟩ (.int .i64 (k0:Nat))) ⟨w.heap.size+2,6,none⟩ (.int .i64 (k1:Nat))) ⟨w.heap.size+2,7,none⟩ (.int .i64 (k2:Nat))) ⟨w.heap.size+2,8,none⟩ (.int .i64 (k3:Nat))) ⟨w.heap.size+2,9,none⟩ (.int .i64 (k4:Nat))) ⟨w.heap.size+2,10,none⟩ (.int .i64 (k5:Nat))) ⟨w.heap.size+2,11,none⟩ (.int .i64 (k6:Nat))) ⟨w.heap.size+2,12,none⟩ (.int .i64 (k7:Nat))) [] by repeat'(first |with_reducible exact(TW0.o.ak HW.o.k)|(with_reducible refine ai.setCell ?_ (.inr (by simp)) _)));have HKR:=ag (show ai wr (World.setCell (World.setCell (World.setCell (World.setCell (World.setCell (World.setCell (World.setCell (World.setCell (World.setCell (World.setCell (World.setCell (World.setCell (World.setCell wr ⟨w.heap.size+2,0,none⟩ (.int .i64 s.out.ending)) ⟨w.heap.size+2,1,none⟩ (.int .i64 s.out.value)) ⟨w.heap.size+2,2,none⟩ (.int .i64 s.out.trap)) ⟨w.heap.size+2,3,none⟩ (.slice ta s.out.trace.length tc)) ⟨w.heap.size+2,4,none⟩ (.int .i64 (s.out.steps:Nat))) ⟨w.heap.size+2,5,none⟩ (.int .i64 (k0:Nat))) ⟨w.heap.size+2,6,none⟩ (.int .i64 (k1:Nat))) ⟨w.heap.size+2,7,none⟩ (.int .i64 (k2:Nat))) ⟨w.heap.size+2,8,none⟩ (.int .i64 (k3:Nat))) ⟨w.heap.size+2,9,none⟩ (.int .i64 (k4:Nat))) ⟨w.heap.size+2,10,none⟩ (.int .i64 (k5:Nat))) ⟨w.heap.size+2,11,none⟩ (.int .i64 (k6:Nat))) ⟨w.heap.size+2,12,none⟩ (.int .i64 (k7:Nat))) [w.heap.size+2] by repeat'(first |with_reducible exact ai.refl _ _|(with_reducible refine ai.setCell ?_ (.inl (by simp)) _)));have HSZ:=ag (show w.heap.size+3≤W0.heap.size by have:=Br_W0.o.lt;omega);generalize(World.setCell (World.setCell (World.setCell (World.setCell (World.setCell (World.setCell (World.setCell (World.setCell (World.setCell (World.setCell (World.setCell (World.setCell (World.setCell wr ⟨w.heap.size+2,0,none⟩ (.int .i64 s.out.ending)) ⟨w.heap.size+2,1,none⟩ (.int .i64 s.out.value)) ⟨w.heap.size+2,2,none⟩ (.int .i64 s.out.trap)) ⟨w.heap.size+2,3,none⟩ (.slice ta s.out.trace.length tc)) ⟨w.heap.size+2,4,none⟩ (.int .i64 (s.out.steps:Nat))) ⟨w.heap.size+2,5,none⟩ (.int .i64 (k0:Nat))) ⟨w.heap.size+2,6,none⟩ (.int .i64 (k1:Nat))) ⟨w.heap.size+2,7,none⟩ (.int .i64 (k2:Nat))) ⟨w.heap.size+2,8,none⟩ (.int .i64 (k3:Nat))) ⟨w.heap.size+2,9,none⟩ (.int .i64 (k4:Nat))) ⟨w.heap.size+2,10,none⟩ (.int .i64 (k5:Nat))) ⟨w.heap.size+2,11,none⟩ (.int .i64 (k6:Nat))) ⟨w.heap.size+2,12,none⟩ (.int .i64 (k7:Nat)))=V at*;obtain⟨z0,z1,z2,z3,z4,z5,z6,z7,z8,z9,z10,z11,z12⟩:=HBX.o.c13;simp at z0 z1 z2 z3 z4 z5 z6 z7 z8 z9 z10 z11 z12;refine bodyPost_ret (v:= .agg #[.int .i64 s.out.ending,.int .i64 s.out.value,.int .i64 s.out.trap,.slice ta s.out.trace.length tc,.int .i64 (s.out.steps:Nat),.int .i64 (k0:Nat),.int .i64 (k1:Nat),.int .i64 (k2:Nat),.int .i64 (k3:Nat),.int .i64 (k4:Nat),.int .i64 (k5:Nat),.int .i64 (k6:Nat),.int .i64 (k7:Nat)]) (by simp[results,Tryz.results23,go_sem,z0,z1,z2,z3,z4,z5,z6,z7,z8,z9,z10,z11,z12]) rfl ⟨.slice ta s.out.trace.length tc,by rw[HRO.o,HQ.o,HOC.o], ?_,HKW.o, ?_⟩
   ·rw[HRO.o,HQ.o];have hro:=om (au HW.o.trace HKR.o (fun b hb=>by have:=(ig HW.o.trace hb).2;have:=HSZ.o;simp;omega));rw[et,List.map_map]at hro;exact hro
   ·rw[HRO.o,HQ.o];have hro:=au HW.o.trace HKR.o (fun b hb=>by have:=(ig HW.o.trace hb).2;have:=HSZ.o;simp;omega);rw[et]at hro;exact⟨_,hro⟩
end Go.Proofs.YtjllbchfojonhaaGreatDoor
namespace Go.Proofs.YtjllbchfojonhaaGreatDoor
open Go.RowKit
def sigOK (z:Nat):Bool:=
 (ntk (z:Int)==(sigT z).length)&&(List.range (ntk (z:Int))).all (fun i=>tkT (z:Int) i==(sigT z)[i]!)&&
 (match sigD z with |some t=>mk1 (z:Int)&&(mkT (z:Int)==t)|none=> !(mk1 (z:Int)))
theorem sig_ok:∀z:Nat,z<27→z≠1→sigOK z=true:=by
 intro z hz h1
 rcases(show z=0∨z=1∨z=2∨z=3∨z=4∨z=5∨z=6∨z=7∨z=8∨z=9∨z=10∨z=11∨z=12∨z=13∨z=14∨z=15∨z=16∨z=17∨z=18∨z=19∨z=20∨z=21∨z=22∨z=23∨z=24∨z=25∨z=26 by omega)with
  rfl|rfl|rfl|rfl|rfl|rfl|rfl|rfl|rfl|rfl|rfl|rfl|rfl|rfl|rfl|rfl|rfl|rfl|rfl|rfl|rfl|rfl|rfl|rfl|rfl|rfl|rfl
 all_goals first |exact absurd rfl h1|kernel_rfl
theorem inB_is {a:Int} {n:Nat}:inB a n=true↔0≤a∧a<(n:Int):=by
 unfold inB;simp
theorem instR_ok {f:ax} {x:cu} (h:lg f x=true) (ht:lh f x=true):Cu f.nv f.tyI x:=by
 unfold lg at h;simp only[Bool.and_eq_true,decide_eq_true_eq,beq_iff_eq]at h;obtain⟨⟨⟨⟨⟨h1,h2⟩,h3⟩,h4⟩,h5⟩,_⟩:=h;have harg:∀a∈x.args.2,0≤a∧a<(f.nv:Int):=fun a ha=>inB_is.1 (List.all_eq_true.1 h4 a ha);by_cases e:x.op=1
 ·have n1:ntk x.op=1:=(by rw[e];rfl);have m1:mk1 x.op=true:=(by rw[e];rfl);rw[if_pos m1,inB_is]at h5;unfold lh at ht;rw[if_pos e,beq_iff_eq]at ht;exact⟨⟨h1,h2⟩,harg,fun _=>⟨by rw[h3,n1],h5.1,h5.2,ht⟩,fun hh=>absurd e hh,fun hh=>absurd e hh,fun hh=>absurd e hh⟩
 ·obtain⟨z,hz⟩:∃z:Nat,x.op=(z:Int):=⟨x.op.toNat,by omega⟩;have hs:=sig_ok z (by omega) (by omega);unfold sigOK at hs;simp only[Bool.and_eq_true,beq_iff_eq,List.all_eq_true,List.mem_range]at hs;obtain⟨⟨s1,s2⟩,s3⟩:=hs;unfold lh at ht;rw[if_neg e]at ht;simp only[Bool.and_eq_true,uz,beq_iff_eq,Bool.or_eq_true,Bool.not_eq_true']at ht;obtain⟨t1,t2⟩:=ht;rw[hz]at h3 h5 t1 t2;have ez:x.op.toNat=z:=(by omega);refine⟨⟨h1,h2⟩,harg,fun hh=>absurd hh e,fun _=>by rw[ez,h3,s1],fun _ i hi=> ?_,fun _=> ?_⟩
  ·rw[ez,t1 i (by omega),s2 i (by omega)]
  ·rw[ez]
   revert s3
   cases sigD z with
   |none=>
    intro s3;have m0:mk1 (z:Int)=false:=(by simpa using s3);rw[m0,if_neg (by decide),beq_iff_eq]at h5;exact h5
   |some t=>
    intro s3;simp only[Bool.and_eq_true,beq_iff_eq]at s3;rw[if_pos s3.1,inB_is]at h5;rcases t2 with t2|t2
    ·rw[s3.1]at t2;cases t2
    ·exact⟨h5.1,h5.2,by rw[t2,s3.2]⟩
theorem blockR_ok {f:ax} (hs:(fw f&&qm f)=true) {b:Nat} (hb:b<f.nb):Dg f.nb f.nv f.tyI f.blocks.2[b]! :=by
 unfold fw qm at hs;simp only[Bool.and_eq_true]at hs;obtain⟨⟨h1,h2,h3⟩,h4⟩:=hs;have b1:=all_at h2 hb;have b2:=all_at h4 hb;generalize f.blocks.2[b]! =y at*;unfold ow at b1;unfold ng Ai at b2;simp only[Bool.and_eq_true,beq_iff_eq]at b1 b2;obtain⟨⟨c1,c2⟩,c3⟩:=b1;obtain⟨⟨d1,d2⟩,d3⟩:=b2
 have hk:y.kind=0∨y.kind=1∨y.kind=2:=by
  unfold qi at c3;split at c3
  ·exact .inl (by assumption)
  ·split at c3
   ·exact .inr (.inl (by assumption))
   ·split at c3
    ·exact .inr (.inr (by assumption))
    ·cases c3
 refine⟨fun x hx=>instR_ok (List.all_eq_true.1 c2 x hx) (List.all_eq_true.1 d2 x hx),hk,fun h=> ?_,fun h=> ?_,fun h=> ?_⟩
 ·unfold qi at c3;rw[if_pos h]at c3;simp only[Bool.and_eq_true,inB_is]at c3;exact c3.1.1
 ·unfold qi at c3;unfold wu at d3;rw[if_neg (by omega),if_pos h]at c3 d3;simp only[Bool.and_eq_true,inB_is,beq_iff_eq]at c3 d3;exact⟨c3.1.2.1,c3.1.2.2,c3.2.1,c3.2.2,c3.1.1.1,c3.1.1.2,d3.1.1⟩
 ·unfold qi at c3;unfold wu at d3;rw[if_neg (by omega),if_neg (by omega)]at d3;rw[if_neg (by omega),if_neg (by omega),if_pos h]at c3;simp only[Bool.and_eq_true,inB_is,beq_iff_eq]at c3 d3;exact⟨c3.1.1,c3.1.2,d3⟩
theorem phiR_ok {f:ax} (hs:fw f=true) {b:Nat} (hb:b<f.nb):∀p∈f.blocks.2[b]!.phis.2,PhiOK f.nv p∧∀a∈p.froms.2,0≤a∧a<(f.nb:Int):=by
 unfold fw at hs;simp only[Bool.and_eq_true]at hs;obtain⟨h1,h2,h3⟩:=hs;have b1:=all_at h2 hb;generalize f.blocks.2[b]! =y at*;unfold ow at b1;simp only[Bool.and_eq_true]at b1;intro p hp;have h:=List.all_eq_true.1 b1.1.1 p hp;unfold xz at h;simp only[Bool.and_eq_true,beq_iff_eq]at h;obtain⟨⟨⟨⟨_,c2⟩,c3⟩,c4⟩,c5⟩:=h;exact⟨⟨inB_is.1 c3,c2,fun a ha=>inB_is.1 (List.all_eq_true.1 c4 a ha)⟩,fun a ha=>inB_is.1 (List.all_eq_true.1 c5 a ha)⟩
theorem phiR_enter {f:ax} (hs:fw f=true) (hj:JoinP f):∀a b,a<f.nb→b<f.nb→kw f.blocks.2[a]! (b:Int)=true→∀p∈f.blocks.2[b]!.phis.2,PhiE f.nv a p:=by
 intro a b ha hb hl p hp;have hk:=(phiR_ok hs hb p hp).1;obtain⟨i,hi,_,e⟩:=phi_some (hj b hb p hp a ha hl);have hm:=hk.arg p.args.2[i]! (nth_mem (by rw[hk.len];exact hi));exact⟨hk.dst,hk.len,(p.args.2[i]!).toNat,by omega,by rw[e];congr 1;omega⟩
structure NumsOK (f:ax) (i:ku):Prop where
 f:∀b∈f.blocks.2,∀x∈b.insts.2,inI x.num=true
 a:∀x∈i.args.2,inI x.int=true
 e:∀p∈i.arrays.2,∀x∈p.2,inI x=true
theorem argM_mem {l:List ArgM} {k:Nat} (h:k<l.length):l[k]! ∈l:=by rw[getElem!_pos l k h];exact List.getElem_mem h
theorem shaped_ty {f:ax} (hs:fw f=true) {j:Nat} (hj:j<f.nv):f.ty j=0∨f.ty j=1∨f.ty j=2:=by
 unfold fw yf at hs;simp only[Bool.and_eq_true]at hs;obtain⟨⟨⟨⟨⟨⟨⟨⟨h1,_⟩,_⟩,_⟩,_⟩,_⟩,_⟩,_⟩,_⟩:=hs;have h:=all_at h1 hj;unfold Cj at h;simp only[Bool.and_eq_true,decide_eq_true_eq]at h
 have e:f.ty j=f.vars.2[j]!.type:=by
  unfold ax.ty;have hj2:j<f.vars.2.length:=hj;rw[List.getElem?_eq_getElem hj2,getElem!_pos f.vars.2 j hj2];rfl
 rw[e];omega
theorem shaped_np {f:ax} (hs:fw f=true):f.np≤f.nv∧1≤f.nb:=by
 unfold fw yf at hs;simp only[Bool.and_eq_true,decide_eq_true_eq]at hs;obtain⟨⟨⟨⟨⟨⟨⟨⟨_,_⟩,_⟩,h4⟩,h5⟩,_⟩,_⟩,_⟩,_⟩:=hs;exact⟨h4.2,h5⟩
theorem begin_good {f:ax} {i:ku} (hs:fw f=true) (hn:NumsOK f i) (hr:qp f i=0):kg f.nv 0 (qg f.nv f.tyI i.args.2 (i.arrays.2.map Prod.snd)):=by
 obtain⟨r1,r2,r3,r4⟩:=right_yes hr;refine⟨begin_full ..,fun x hx=> ?_,fun l hl=> ?_,fun l hl=> ?_,fun x hx=> ?_, ?_,Nat.zero_le _,rfl,fun x hx=> ?_⟩
 ·obtain⟨j,hj,rfl⟩:=List.mem_map.1 hx;split
  ·rename_i h;exact hn.a _ (argM_mem h.1)
  ·exact Dq
 ·obtain⟨p,hp,rfl⟩:=List.mem_map.1 hl;exact hn.e p hp
 ·obtain⟨p,hp,rfl⟩:=List.mem_map.1 hl;obtain⟨j,hj,rfl⟩:=List.mem_iff_getElem.1 hp;have:=r4 j hj
  rwa [getElem!_pos i.arrays.2 j hj]at this
 ·obtain⟨j,hj,rfl⟩:=List.mem_map.1 hx;show _∧_<((i.arrays.2.map Prod.snd).length:Int);rw[List.length_map];split
  ·rename_i h;have hg:=r2 j h.1;unfold Dr at hg
   have ht:¬f.ty j=0∧¬f.ty j=1:=by
    have:=h.2;unfold ax.tyI at this
    simpa using this
   by_cases e2:f.ty j=2
   ·simp only[e2,beq_self_eq_true,Bool.not_true,Bool.false_or,Bool.and_eq_true,decide_eq_true_eq]at hg;exact⟨hg.1,hg.2⟩
   ·have hjn:j<f.nv:=(by have:=(shaped_np hs).1;have:=h.1;omega);rcases shaped_ty hs hjn with q|q|q
    ·exact absurd q ht.1
    ·exact absurd q ht.2
    ·exact absurd q e2
  ·omega
 ·show(i.arrays.2.map Prod.snd).length≤32;rw[List.length_map];exact r3
 ·simp[qg]at hx;omega
theorem run_ok {w:World} {f:ax} {i:ku} (hf:cz w f) (hi:Ad w i) (hs:(fw f&&qm f)=true) (hfew:yu f) (hn:NumsOK f i) (hr:qp f i=0) (hj:JoinP f):RunOK w f i:=by
 have hsh:fw f=true:=(by rw[Bool.and_eq_true]at hs;exact hs.1);obtain⟨r1,r2,r3,r4⟩:=right_yes hr;obtain⟨p1,p2⟩:=shaped_np hsh;refine⟨hf,hi,phiR_enter hsh hj,fun b hb=>(by have:=(hfew.block _ (az (l:=f.blocks.2) (k:=b) hb)).1;omega),fun b hb=>blockR_ok hs hb,fun b hb=>hn.f _ (az hb),fun b hb=> ?_,p2,by have:=hfew.nv;omega,by omega,by omega,fun p hp=> ?_,begin_good hsh hn hr⟩
 ·have:=(hfew.block _ (az (l:=f.blocks.2) (k:=b) hb)).2;omega
 ·obtain⟨j,hj,rfl⟩:=List.mem_iff_getElem.1 hp;have:=r4 j hj;rw[getElem!_pos i.arrays.2 j hj]at this;omega
end Go.Proofs.YtjllbchfojonhaaGreatDoor
namespace Go.Proofs.YtjllbchfojonhaaGreatDoor
open Go.Lib Go.Deep Go.Joins Go.ChangeShapes Go.WideShapes Go.ChangeAt Go.RowKit
theorem inI_of {n:Int} (h:(Lit.int .i64 n).wf=true):inI n=true:=by
 simp only[Lit.wf,Bool.and_eq_true,decide_eq_true_eq]at h;exact decide_eq_true ⟨h.1,h.2⟩
section
variable {H:Type} {enc:TypeId×Value→H} {w:World} {base:Nat} {spare:Nat→Bool} {held:Bool}
theorem open_args {fuel:Nat} {cs:List Value} {x:DataW H×List MemPlace} (h:DataW.trod enc Tryz.prog w base spare held fuel 54 cs=some x):
  ∃(v:Value) (l:List ArgM),cs=[v]∧Row w 3 v (l.map ArgM.cells)∧∀m∈l,inI m.int=true:=
 zm ArgM.cells (fun m => inI m.int = true) (C := 3) Tryz.underlying54 (by kernel_rfl) (by decide) (fun n cs y hl ht => by
  obtain⟨y0,y1,y2,n',_,_,h0,h1,h2⟩:=trod_struct3 Tryz.underlying98 ht;obtain⟨c0,c1,c2,rfl⟩:=list3 hl;obtain⟨z0,e0,_,hw⟩:=DataW.trod_int Tryz.underlying2 h0;obtain⟨z1,e1,_⟩:=DataW.trod_bool Tryz.underlying4 h1;obtain⟨z2,e2,_,_⟩:=DataW.trod_int Tryz.underlying3 h2;simp[show Tryz.prog.cellsOf 2=1 by kernel_rfl,show Tryz.prog.cellsOf 4=1 by kernel_rfl,show Tryz.prog.cellsOf 3=1 by kernel_rfl]at e0 e1 e2;subst e0 e1 e2
  exact⟨⟨z0,z1,z2⟩,rfl,inI_of hw⟩) h
theorem open_i64s {fuel:Nat} {cs:List Value} {x:DataW H×List MemPlace} (h:DataW.trod enc Tryz.prog w base spare held fuel 64 cs=some x):
  ∃p:jl,cs=[p.1]∧bu w p∧∀z∈p.2,inI z=true:=by
 obtain ⟨v, l, rfl, hr, hz⟩ := zm (M := Int) intCells (fun z => inI z = true) (C := 1) Tryz.underlying64 (by kernel_rfl) (by decide) (fun n cs y hl ht => by
  obtain⟨z,rfl,_,hw⟩:=DataW.trod_int Tryz.underlying2 ht
  exact⟨z,rfl,inI_of hw⟩) h
 exact⟨(v,l),rfl,hr,hz⟩
theorem open_arrays {fuel:Nat} {cs:List Value} {x:DataW H×List MemPlace} (h:DataW.trod enc Tryz.prog w base spare held fuel 55 cs=some x):
  ∃(v:Value) (l:List jl),cs=[v]∧Row w 1 v (l.map rowCells)∧∀p∈l,bu w p∧∀z∈p.2,inI z=true:=
 zm rowCells (fun p => bu w p ∧ ∀ z ∈ p.2, inI z = true) (C := 1) Tryz.underlying55 (by kernel_rfl) (by decide) (fun n cs y hl ht => by
  obtain⟨p,rfl,h1,h2⟩:=open_i64s ht
  exact⟨p,rfl,h1,h2⟩) h
theorem open_input {r:Reach} {b0:Nat} {v:Value} {d:DataW H} {p:List MemPlace} (hv:Value.okWide Tryz.prog w r b0 57 v) (h:DataW.Trod enc Tryz.prog w base spare held 57 v d p):
  ∃i:ku,v=i.val∧Ad w i∧(∀x∈i.args.2,inI x.int=true)∧∀p∈i.arrays.2,∀x∈p.2,inI x=true:=by
 obtain⟨fuel,hx⟩:=h;obtain⟨y0,y1,n',_,hl',h0,h1⟩:=trod_struct2 Tryz.underlying57 hx;rw[show Tryz.prog.cellsOf 57=2 by kernel_rfl]at hl';obtain⟨c0,c1,hc⟩:∃c0 c1,v.cells.toList=[c0,c1]:=zy hl';rw[hc]at h0 h1;simp[show Tryz.prog.cellsOf 54=1 by kernel_rfl,show Tryz.prog.cellsOf 55=1 by kernel_rfl]at h0 h1;obtain⟨v0,l0,e0,r0,k0⟩:=open_args h0;obtain⟨v1,l1,e1,r1,k1⟩:=open_arrays h1;simp at e0 e1;subst e0 e1
 have hv':v= .agg #[c0,c1]:=by
  cases v<;>simp[Value.cells,Value.okWide,Tryz.underlying57]at hc hv ⊢;rename_i cs;obtain⟨l⟩:=cs
  simpa using hc
 exact⟨⟨(c0,l0),(c1,l1)⟩,hv',⟨r0,r1,fun p hp=>(k1 p hp).1⟩,k0,fun p hp=>(k1 p hp).2⟩
theorem open_instsN {fuel:Nat} {cs:List Value} {x:DataW H×List MemPlace} (h:DataW.trod enc Tryz.prog w base spare held fuel 32 cs=some x):
  ∃(v:Value) (l:List cu),cs=[v]∧Row w 4 v (l.map cu.cells)∧∀m∈l,uu w m∧inI m.num=true:=
 zm cu.cells (fun m => uu w m ∧ inI m.num = true) (C := 4) Tryz.underlying32 (by kernel_rfl) (by decide) (fun n cs y hl ht => by
  obtain⟨y0,y1,y2,y3,n',_,_,h0,h1,h2,h3⟩:=trod_struct4 Tryz.underlying43 ht;obtain⟨c0,c1,c2,c3,rfl⟩:=list4 hl;obtain⟨z0,e0,_,_⟩:=DataW.trod_int Tryz.underlying41 h0;obtain⟨z1,e1,_,_⟩:=DataW.trod_int Tryz.underlying3 h1;obtain⟨p2,e2,k2⟩:=open_ints h2;obtain⟨z3,e3,_,hw⟩:=DataW.trod_int Tryz.underlying2 h3;simp[show Tryz.prog.cellsOf 41=1 by kernel_rfl,show Tryz.prog.cellsOf 3=1 by kernel_rfl,show Tryz.prog.cellsOf 23=1 by kernel_rfl,show Tryz.prog.cellsOf 2=1 by kernel_rfl]at e0 e1 e2 e3;subst e0 e1 e2 e3
  exact⟨⟨z0,z1,p2,z3⟩,rfl,k2,inI_of hw⟩) h
theorem open_blocksN {fuel:Nat} {cs:List Value} {x:DataW H×List MemPlace} (h:DataW.trod enc Tryz.prog w base spare held fuel 24 cs=some x):
  ∃(v:Value) (l:List df),cs=[v]∧Row w 7 v (l.map df.cells)∧∀m∈l,Cf w m∧∀y∈m.insts.2,inI y.num=true:=
 zm df.cells (fun m => Cf w m ∧ ∀ y ∈ m.insts.2, inI y.num = true) (C := 7) Tryz.underlying24 (by kernel_rfl) (by decide) (fun n cs y hl ht => by
  obtain⟨y0,y1,y2,y3,n',_,_,h0,h1,h2,h3⟩:=trod_struct4 Tryz.underlying38 ht;obtain⟨c0,c1,c2,c3,c4,c5,c6,rfl⟩:=list7 hl;simp[show Tryz.prog.cellsOf 9=1 by kernel_rfl,show Tryz.prog.cellsOf 31=1 by kernel_rfl,show Tryz.prog.cellsOf 32=1 by kernel_rfl,show Tryz.prog.cellsOf 36=4 by kernel_rfl]at h0 h1 h2 h3;obtain⟨s,e0,_,hs⟩:=DataW.trod_string Tryz.underlying9 h0;obtain⟨v1,l1,e1,r1,k1⟩:=open_phis h1;obtain⟨v2,l2,e2,r2,k2⟩:=open_instsN h2;obtain⟨x0,x1,x2,m,_,_,g0,g1,g2⟩:=trod_struct3 Tryz.underlying36 h3;simp[show Tryz.prog.cellsOf 33=1 by kernel_rfl,show Tryz.prog.cellsOf 3=1 by kernel_rfl,show Tryz.prog.cellsOf 34=2 by kernel_rfl]at g0 g1 g2;obtain⟨z0,f0,_,_⟩:=DataW.trod_int Tryz.underlying33 g0;obtain⟨z1,f1,_,_⟩:=DataW.trod_int Tryz.underlying3 g1;obtain⟨a,b,f2,f3⟩:=open_two g2;simp at e0 e1 e2 f0 f1;subst e0 e1 e2 f0 f1 f2 f3
  exact⟨⟨s,(c1,l1),(c2,l2),z0,z1,a,b⟩,rfl,⟨r1,k1,r2,fun x hx=>(k2 x hx).1,hs⟩,fun x hx=>(k2 x hx).2⟩) h
theorem open_funcN {r:Reach} {b0:Nat} {v:Value} {d:DataW H} {p:List MemPlace} (hv:Value.okWide Tryz.prog w r b0 26 v) (h:DataW.Trod enc Tryz.prog w base spare held 26 v d p):
  ∃f:ax,v=f.val∧cz w f∧∀b∈f.blocks.2,∀x∈b.insts.2,inI x.num=true:=by
 obtain⟨fuel,hx⟩:=h;obtain⟨y0,y1,y2,n',_,hl',h0,h1,h2⟩:=trod_struct3 Tryz.underlying26 hx;rw[show Tryz.prog.cellsOf 26=3 by kernel_rfl]at hl'
 obtain⟨c0,c1,c2,hc⟩:∃c0 c1 c2,v.cells.toList=[c0,c1,c2]:=by
  exact list3 hl'
 rw[hc]at h0 h1 h2;simp[show Tryz.prog.cellsOf 22=1 by kernel_rfl,show Tryz.prog.cellsOf 23=1 by kernel_rfl,show Tryz.prog.cellsOf 24=1 by kernel_rfl]at h0 h1 h2;obtain⟨v0,l0,e0,r0,k0⟩:=open_vars h0;obtain⟨p1,e1,k1⟩:=open_ints h1;obtain⟨v2,l2,e2,r2,k2⟩:=open_blocksN h2;simp at e0 e1 e2;subst e0 e1 e2
 have hv':v= .agg #[c0,p1.1,c2]:=by
  cases v<;>simp[Value.cells,Value.okWide,Tryz.underlying26]at hc hv ⊢;rename_i cs;obtain⟨l⟩:=cs
  simpa using hc
 exact⟨⟨(c0,l0),p1,(c2,l2)⟩,hv',⟨r0,k0,k1,r2,fun b hb=>(k2 b hb).1⟩,fun b hb=>(k2 b hb).2⟩
end
end Go.Proofs.YtjllbchfojonhaaGreatDoor
