/- The made program's run beside the program's: what the walk of GuardTraps wants (plain). -/
import Derived.Test.YtjllbchfojonhaaGreatDoorRH
import Derived.Test.YtjllbchfojonhaaGreatDoorHX
import Derived.Test.YtjllbchfojonhaaGreatDoorGM1
import Derived.Test.YtjllbchfojonhaaGreatDoorRJ
import Derived.Test.YtjllbchfojonhaaGreatDoorJW
set_option linter.unusedVariables false
set_option linter.unusedSimpArgs false
set_option maxRecDepth 100000
set_option maxHeartbeats 200000000
namespace Go.Proofs.YtjllbchfojonhaaGreatDoor
structure Sim (s t:StM) (l:List Int):Prop where
 i:∀v∈l,t.I v=s.I v
 a:∀v∈l,t.A v=s.A v
 n:s.arrays.length≤t.arrays.length
 z:∀k,k<s.arrays.length→t.arrays[k]!.length=s.arrays[k]!.length
theorem Sim.refl (s:StM) (l:List Int):Sim s s l:=⟨fun _ _=>rfl,fun _ _=>rfl,Nat.le_refl _,fun _ _=>rfl⟩
theorem Sim.trans {s t u:StM} {l:List Int} (h:Sim s t l) (h2:Sim t u l):Sim s u l:=
 ⟨fun v hv=>(h2.i v hv).trans (h.i v hv),fun v hv=>(h2.a v hv).trans (h.a v hv),Nat.le_trans h.n h2.n,fun k hk=>(h2.z k (Nat.lt_of_lt_of_le hk h.n)).trans (h.z k hk)⟩
theorem Sim.same {s t:StM} {l:List Int} (h1:t.ints=s.ints) (h2:t.arrs=s.arrs) (h3:t.arrays=s.arrays):Sim s t l:=
 ⟨fun v _=>by unfold StM.I;rw[h1],fun v _=>by unfold StM.A;rw[h2],by rw[h3];exact Nat.le_refl _,fun k _=>by rw[h3]⟩
theorem place_sim {s t:StM} {l:List Int} (h:Sim s t l) {a i:Int} (hp:mh s a i=true):mh t a i=true:=by
 unfold mh at hp ⊢;simp only[Bool.and_eq_true,decide_eq_true_eq]at hp ⊢;obtain⟨⟨⟨h1,h2⟩,h3⟩,h4⟩:=hp;have:=h.n;have hz:=h.z a.toNat (by omega);refine⟨⟨⟨h1,by omega⟩,h3⟩,by rw[hz];exact h4⟩
theorem nth_memZ {l:List Int} {i:Nat} (h:i<l.length):l[i]! ∈l:=by rw[getElem!_pos l i h];exact List.getElem_mem h
theorem pass_sim {s t:StM} {op:Int} {l:List Int} (h:Sim s t l) (hl:0<l.length) (hp:gy s op l=true):gy t op l=true:=by
 have e0:t.I l[0]! =s.I l[0]! :=h.i _ (nth_memZ hl);have a0:t.A l[0]! =s.A l[0]! :=h.a _ (nth_memZ hl)
 have e1:(if 1<l.length then t.I l[1]! else 0)=if 1<l.length then s.I l[1]! else 0:=by
  split
  ·exact h.i _ (nth_memZ ‹_›)
  ·rfl
 unfold gy at hp ⊢;simp only at hp ⊢;rw[e0,a0,e1];by_cases h18:op=18
 ·rw[if_pos h18]at hp ⊢;exact place_sim h hp
 ·rw[if_neg h18]at hp ⊢;exact hp
section
variable {n:Nat} {s:StM}
theorem sim_setI (h:Full n s) {d x:Int} (hd:0≤d∧d<(n:Int)) {l:List Int} (hl:∀v∈l,0≤v) (hn:d∉l):Sim s (s.jg d x) l:=
 ⟨fun v hv=>by rw[I_setI s x (by rw[h.i];exact hd) (hl v hv),if_neg (fun e=>hn (by rw[←e];exact hv))],fun _ _=>rfl,Nat.le_refl _,fun _ _=>rfl⟩
theorem sim_setB (s:StM) {d:Int} {x:Bool} {l:List Int}:Sim s (s.lq d x) l:=Sim.same rfl rfl rfl
theorem sim_setA (h:Full n s) {d x:Int} (hd:0≤d∧d<(n:Int)) {l:List Int} (hl:∀v∈l,0≤v) (hn:d∉l):Sim s (s.mg d x) l:=
 ⟨fun _ _=>rfl,fun v hv=>by rw[A_setA s x (by rw[h.a];exact hd) (hl v hv),if_neg (fun e=>hn (by rw[←e];exact hv))],Nat.le_refl _,fun _ _=>rfl⟩
theorem sim_phis {l:List Int} (hl:∀v∈l,0≤v) (old:StM) (b:Nat):∀(ps:List jk) (s:StM),Full n s→(∀p∈ps,0≤p.dst∧p.dst<(n:Int))→(∀p∈ps,p.dst∉l)→Sim s (lu ps old s b) l∧Full n (lu ps old s b)
 |[],s,h,_,_=>⟨Sim.refl _ _,h⟩
 |p::ps,s,h,hd,hn=>by
  have h1:=hd p (List.mem_cons_self ..);have h2:=hn p (List.mem_cons_self ..);unfold lu;rw[List.foldl_cons];cases uq p b with
  |none=>exact sim_phis hl old b ps s h (fun q hq=>hd q (List.mem_cons_of_mem _ hq)) (fun q hq=>hn q (List.mem_cons_of_mem _ hq))
  |some a=>
   have f1:=h.jg p.dst (old.I a);have f2:=f1.lq p.dst (old.B a);obtain⟨r1,r2⟩:=sim_phis hl old b ps (((s.jg p.dst (old.I a)).lq p.dst (old.B a)).mg p.dst (old.A a)) (f2.mg p.dst (old.A a)) (fun q hq=>hd q (List.mem_cons_of_mem _ hq)) (fun q hq=>hn q (List.mem_cons_of_mem _ hq));exact⟨(((sim_setI h h1 hl h2).trans (sim_setB _)).trans (sim_setA f2 h1 hl h2)).trans r1,r2⟩
end
theorem phis_out (old:StM) (b:Nat):∀(ps:List jk) (s:StM),(lu ps old s b).out=s.out∧(lu ps old s b).ended=s.ended∧(lu ps old s b).arrays=s.arrays
 |[],s=>⟨rfl,rfl,rfl⟩
 |p::ps,s=>by
  unfold lu;rw[List.foldl_cons];cases uq p b with
  |none=>exact phis_out old b ps s
  |some a=>exact phis_out old b ps (((s.jg p.dst (old.I a)).lq p.dst (old.B a)).mg p.dst (old.A a))
theorem fold_phi {l:List Int}:∀{ps:List jk} {g:Bool},ps.foldl (phiG l) g=true→g=true∧∀p∈ps,p.dst∉l
 |[],g,h=>⟨h,fun p hp=>by cases hp⟩
 |p::ps,g,h=>by
  rw[List.foldl_cons]at h;obtain⟨h1,h2⟩:=fold_phi h;unfold phiG at h1;split at h1
  ·cases h1
  ·rename_i hc;refine⟨h1,fun q hq=> ?_⟩;rcases List.mem_cons.1 hq with rfl|hq
   ·exact fun hm=>hc (List.contains_iff_mem.2 hm)
   ·exact h2 q hq
structure ChkOK (n:Nat) (op:Int) (l:List Int):Prop where
 op:18≤op∧op≤24
 pos:0<l.length
 arg:∀a∈l,0≤a∧a<(n:Int)
structure SafeOK (f:ax) (ty:Int→Int):Prop where
 ok:∀b,b<f.nb→Dg f.nb f.nv ty f.blocks.2[b]!
 phi:∀b,b<f.nb→∀p∈f.blocks.2[b]!.phis.2,PhiOK f.nv p
 join:JoinP f
structure SafeI (f:ax) (s:StM):Prop where
 bl:s.block<f.nb
 pc:s.pc≤f.blocks.2[s.block]!.insts.2.length
 full:Full f.nv s
 mrk:∀op l,ChkOK f.nv op l→∃g,Di (oo f) (tF f op l) s.block g∧(lm f.blocks.2[s.block]! op l s.pc g=true→gy s op l=true)
def SafeS (f:ax) (s:StM):Prop:=s.out.ending≠2∧(s.ended=false→SafeI f s)
theorem step_mark {f:ax} {s t:StM} {op:Int} {l:List Int} {x:cu} (hx:x=f.blocks.2[s.block]!.insts.2[s.pc]!) (hp:s.pc<f.blocks.2[s.block]!.insts.2.length) (hb:t.block=s.block) (hpc:t.pc=s.pc+1)
  (hm:∃g,Di (oo f) (tF f op l) s.block g∧(lm f.blocks.2[s.block]! op l s.pc g=true→gy s op l=true))
  (h1:isB x op l=true→gy t op l=true) (h2:(0≤x.dst→x.dst∉l)→gy s op l=true→gy t op l=true):
  ∃g,Di (oo f) (tF f op l) t.block g∧(lm f.blocks.2[t.block]! op l t.pc g=true→gy t op l=true):=by
 obtain⟨g,hg,hw⟩:=hm;refine⟨g,by rw[hb];exact hg,fun ht=> ?_⟩;rw[hb,hpc]at ht;unfold lm at ht;rw[fold_take _ _ _ _ hp,←hx]at ht;unfold instG at ht;split at ht
 ·cases ht
 ·rename_i hd;rw[Bool.or_eq_true]at ht;rcases ht with ht|ht
  ·exact h1 ht
  ·refine h2 (fun h0 hmem=>hd ?_) (hw ht);rw[Bool.and_eq_true,decide_eq_true_eq];exact⟨h0,List.contains_iff_mem.2 hmem⟩
theorem set_len (L:List (List Int)) (a b:Nat) (v:Int) (k:Nat):((L.set a (L[a]!.set b v))[k]!).length=L[k]!.length:=by
 by_cases hk:k<L.length
 ·rw[getElem!_pos _ k (by rw[List.length_set];exact hk),List.getElem_set];split
  ·rename_i q;rw[List.length_set,q]
  ·rw[getElem!_pos L k hk]
 ·rw[getElem!_neg _ k (by rw[List.length_set];exact hk),getElem!_neg L k hk]
theorem stays_inst (s:StM) (x:cu):(di s x).block=s.block∧(di s x).pc=s.pc:=inst_stays s x
structure Trail (n:Nat) (x:cu) (s t:StM):Prop where
 out:t.out.ending=s.out.ending∧t.ended=s.ended
 full:Full n t
 sim:∀l:List Int,(∀v∈l,0≤v)→(0≤x.dst→x.dst∉l)→Sim s t l
 chk:18≤x.op∧x.op≤24→gy t x.op x.args.2=true
def Done (t:StM):Prop:=t.ended=true∧t.out.ending≠2
theorem Cg {n:Nat} {s:StM} {x:cu} (h:Full n s) (hc:¬(18≤x.op∧x.op≤24)) {t:StM} (ho:t.out=s.out) (he:t.ended=s.ended) (hf:Full n t) (hs:∀l:List Int,(∀v∈l,0≤v)→(0≤x.dst→x.dst∉l)→Sim s t l):Trail n x s t:=
 ⟨⟨by rw[ho],he⟩,hf,hs,fun h=>absurd h hc⟩
theorem okD_in {n:Nat} {ty:Int→Int} {d t:Int} (h:okD n ty d (some t)):0≤d∧d<(n:Int):=⟨h.1,h.2.1⟩
theorem inst_trail {n:Nat} {ty:Int→Int} {s:StM} {x:cu} (h:Full n s) (hx:Cu n ty x) (hn:s.out.ending≠2)
  (hg:inL rf x.op=true→gy s (ik x.op.toNat).1 (iq x x.op.toNat)=true):Done (di s x)∨Trail n x s (di s x):=by
 unfold di;by_cases hk:18≤x.op∧x.op≤24
 ·rw[if_pos hk];unfold qf;simp only;split
  ·rename_i hp;right;refine⟨⟨rfl,rfl⟩,h.of rfl rfl rfl,fun l _ _=>Sim.same rfl rfl rfl,fun _=> ?_⟩
   have hl:0<x.args.2.length:=by
    rw[hx.len (by omega)];rcases(show x.op=18∨x.op=19∨x.op=20∨x.op=21∨x.op=22∨x.op=23∨x.op=24 by omega)with e|e|e|e|e|e|e<;>rw[e]<;>decide
   exact pass_sim (Sim.same rfl rfl rfl) hl hp
  ·exact .inl ⟨rfl,by show(1:Int)≠2;decide⟩
 ·rw[if_neg hk];have S:∀z,sigD x.op.toNat=some z→x.op≠1→0≤x.dst∧x.dst<(n:Int):=fun z hz h1=>by have:=hx.dst h1;rw[hz]at this;exact okD_in this
  have L:=hx.len
  have two:∀z:Int,x.op=z→z≠1→(sigT z.toNat).length=2→∃a b,x.args.2=[a,b]:=fun z hz h1 h2=>by
   have:=L (by omega);rw[hz,h2]at this
   match hl:x.args.2,this with
   |[a,b],_=>exact⟨a,b,rfl⟩
  have one:∀z:Int,x.op=z→z≠1→(sigT z.toNat).length=1→∃a,x.args.2=[a]:=fun z hz h1 h2=>by
   have:=L (by omega);rw[hz,h2]at this
   match hl:x.args.2,this with
   |[a],_=>exact⟨a,rfl⟩
  have three:∀z:Int,x.op=z→z≠1→(sigT z.toNat).length=3→∃a b c,x.args.2=[a,b,c]:=fun z hz h1 h2=>by
   have:=L (by omega);rw[hz,h2]at this
   match hl:x.args.2,this with
   |[a,b,c],_=>exact⟨a,b,c,rfl⟩
  have RI:∀v:Int,0≤x.dst∧x.dst<(n:Int)→Trail n x s (s.jg x.dst v):=fun v hd=>Cg h hk rfl rfl (h.jg _ _) fun l hl hm=>sim_setI h hd hl (hm hd.1);have RB:∀v:Bool,Trail n x s (s.lq x.dst v):=fun v=>Cg h hk rfl rfl (h.lq _ _) fun l hl hm=>sim_setB s;have RA:∀v:Int,0≤x.dst∧x.dst<(n:Int)→Trail n x s (s.mg x.dst v):=fun v hd=>Cg h hk rfl rfl (h.mg _ _) fun l hl hm=>sim_setA h hd hl (hm hd.1);have RC:∀(a:Int) (p:Bool) (r:Int),0≤x.dst∧x.dst<(n:Int)→Trail n x s (((s.jg x.dst a).lq x.dst p).mg x.dst r):=fun a p r hd=>Cg h hk rfl rfl (((h.jg _ _).lq _ _).mg _ _) fun l hl hm=>((sim_setI h hd hl (hm hd.1)).trans (sim_setB _)).trans (sim_setA ((h.jg _ _).lq _ _) hd hl (hm hd.1));have F3:Done (s.fin 3):=⟨rfl,by show(3:Int)≠2;decide⟩;unfold vg;simp only;rcases op_cases hx.op with e|e|e|e|e|e|e|e|e|e|e|e|e|e|e|e|e|e|e|e|e|e|e|e|e|e|e;all_goals(try(exact absurd (show 18≤x.op∧x.op≤24 by omega) hk))
  all_goals simp only[e,Int.reduceEq,or_self,or_false,or_true,false_or,true_or,if_true,if_false, ↓reduceIte]
  ·exact .inr (RI _ (S 0 (by rw[e];rfl) (by omega)))
  ·exact .inr (RC _ _ _ ⟨(hx.copy e).2.1,(hx.copy e).2.2.1⟩)
  ·exact .inr (RI _ (S 0 (by rw[e];rfl) (by omega)))
  ·exact .inr (RI _ (S 0 (by rw[e];rfl) (by omega)))
  ·exact .inr (RI _ (S 0 (by rw[e];rfl) (by omega)))
  ·obtain⟨a,b,hl⟩:=two 5 e (by decide) rfl;have hp:=hg (by rw[e];rfl);rw[e,show ik (5:Int).toNat=(20,1,1)from rfl,show iq x (5:Int).toNat=[b] by unfold iq;rw[hl];rfl]at hp;rw[hl];have hb:¬s.I b=0:=(by unfold gy at hp;simpa using hp);show Done (if s.I b=0 then _ else _)∨Trail n x s (if s.I b=0 then _ else _);rw[if_neg hb];exact .inr (RI _ (S 0 (by rw[e];rfl) (by omega)))
  ·obtain⟨a,b,hl⟩:=two 6 e (by decide) rfl;have hp:=hg (by rw[e];rfl);rw[e,show ik (6:Int).toNat=(20,1,1)from rfl,show iq x (6:Int).toNat=[b] by unfold iq;rw[hl];rfl]at hp;rw[hl];have hb:¬s.I b=0:=(by unfold gy at hp;simpa using hp);show Done (if s.I b=0 then _ else _)∨Trail n x s (if s.I b=0 then _ else _);rw[if_neg hb];exact .inr (RI _ (S 0 (by rw[e];rfl) (by omega)))
  ·exact .inr (RB _)
  ·exact .inr (RB _)
  ·exact .inr (RB _)
  ·exact .inr (RB _)
  ·exact .inr (RB _)
  ·obtain⟨a,hl⟩:=one 12 e (by decide) rfl;have hp:=hg (by rw[e];rfl);rw[e,show ik (12:Int).toNat=(19,0,1)from rfl,show iq x (12:Int).toNat=[a] by unfold iq;rw[hl];rfl]at hp;rw[hl];have hb:¬s.A a<0:=(by unfold gy at hp;simp at hp;omega);show Done (if s.A a<0 then _ else _)∨Trail n x s (if s.A a<0 then _ else _);rw[if_neg hb];exact .inr (RI _ (S 0 (by rw[e];rfl) (by omega)))
  ·obtain⟨a,b,hl⟩:=two 13 e (by decide) rfl;have hp:=hg (by rw[e];rfl);rw[e,show ik (13:Int).toNat=(18,0,2)from rfl,show iq x (13:Int).toNat=[a,b] by unfold iq;rw[hl];rfl]at hp;rw[hl];have hb:mh s (s.A a) (s.I b)=true:=hp;show Done (if mh s (s.A a) (s.I b)=true then _ else _)∨Trail n x s (if mh s (s.A a) (s.I b)=true then _ else _);rw[if_pos hb];exact .inr (RI _ (S 0 (by rw[e];rfl) (by omega)))
  ·obtain⟨a,b,c,hl⟩:=three 14 e (by decide) rfl;have hp:=hg (by rw[e];rfl);rw[e,show ik (14:Int).toNat=(18,0,2)from rfl,show iq x (14:Int).toNat=[a,b] by unfold iq;rw[hl];rfl]at hp;rw[hl];have hb:mh s (s.A a) (s.I b)=true:=hp;show Done (if mh s (s.A a) (s.I b)=true then _ else _)∨Trail n x s (if mh s (s.A a) (s.I b)=true then _ else _);rw[if_pos hb];refine .inr (Cg h hk rfl rfl (h.of rfl rfl rfl) fun l hl hm=>⟨fun _ _=>rfl,fun _ _=>rfl, ?_,fun k hk=> ?_⟩)
   ·show s.arrays.length≤(s.arrays.set _ _).length;rw[List.length_set];exact Nat.le_refl _
   ·exact set_len s.arrays _ _ _ k
  ·obtain⟨a,hl⟩:=one 15 e (by decide) rfl;have hp:=hg (by rw[e];rfl);rw[e,show ik (15:Int).toNat=(24,0,1)from rfl,show iq x (15:Int).toNat=[a] by unfold iq;rw[hl];rfl]at hp;rw[hl];have hb:¬(s.I a<0∨64<s.I a):=(by unfold gy at hp;simp at hp;omega);show Done (if s.I a<0∨64<s.I a then _ else _)∨Trail n x s (if s.I a<0∨64<s.I a then _ else _);rw[if_neg hb];by_cases h32:32≤s.arrays.length
   ·rw[if_pos h32];exact .inl F3
   ·rw[if_neg h32];have hd:=S 2 (by rw[e];rfl) (by omega);generalize List.replicate _ (0:Int)=r;have f1:Full n {s with arrays:=s.arrays++[r]}:=h.of rfl rfl rfl;refine .inr (Cg h hk rfl rfl (f1.mg _ _) fun l hl hm=>Sim.trans (t:={s with arrays:=s.arrays++[r]}) ⟨fun _ _=>rfl,fun _ _=>rfl, ?_,fun k hk=> ?_⟩ (sim_setA f1 hd hl (hm hd.1)))
    ·show s.arrays.length≤(s.arrays++[r]).length;rw[List.length_append];omega
    ·show((s.arrays++[r])[k]!).length=_;rw[getElem!_pos _ k (by rw[List.length_append];omega),getElem!_pos s.arrays k hk,List.getElem_append_left hk]
  ·exact .inr (RA _ (S 2 (by rw[e];rfl) (by omega)))
  ·by_cases ht:4096≤s.out.trace.length
   ·rw[if_pos ht];exact .inl F3
   ·rw[if_neg ht];exact .inr ⟨⟨rfl,rfl⟩,h.of rfl rfl rfl,fun l _ _=>Sim.same rfl rfl rfl,fun q=>absurd q hk⟩
  ·exact .inr (RC _ _ _ (S 0 (by rw[e];rfl) (by omega)))
  ·exact .inr (RC _ _ _ (S 0 (by rw[e];rfl) (by omega)))
theorem chk_of {k:Nat} {n:Nat} {ty:Int→Int} {x:cu} (hx:Cu n ty x) (hr:inL rf x.op=true):ChkOK n (ik x.op.toNat).1 (iq x x.op.toNat):=by
 have hm:=inL_iff.1 hr;unfold rf at hm
 have hsub:∀a∈iq x x.op.toNat,0≤a∧a<(n:Int):=fun a ha=>by
  unfold iq at ha;exact hx.arg a (List.mem_of_mem_drop (List.mem_of_mem_take ha))
 have L:=hx.len;simp only[List.mem_cons,List.not_mem_nil,or_false]at hm;refine⟨?_, ?_,hsub⟩
 ·rcases hm with e|e|e|e|e|e<;>rw[e]<;>decide
 ·unfold iq;rw[List.length_take,List.length_drop];rcases hm with e|e|e|e|e|e<;>(have:=L (by omega);rw[e]at this ⊢;rw[this];decide)
theorem leads_of {nb n:Nat} {ty:Int→Int} {y:df} (h:Dg nb n ty y) {t:Int} (ht:y.kind=0∧t=y.to0∨y.kind=1∧(t=y.to0∨t=y.to1)):kw y t=true:=by
 unfold kw;rcases ht with⟨h0,rfl⟩|⟨h1,rfl|rfl⟩
 ·rw[h0];simp
 ·rw[h1];simp
 ·rw[h1];simp
theorem safe_enter {f:ax} {ty:Int→Int} (hS:SafeOK f ty) {s:StM} (h:SafeI f s) (hn:s.out.ending≠2) (he:s.ended=false) (hpc:¬s.pc<f.blocks.2[s.block]!.insts.2.length) {tq:Nat} (hto:tq<f.nb) (hl:kw f.blocks.2[s.block]! (tq:Int)=true):
  SafeS f (qw (fun b=>f.blocks.2[b]!) s tq):=by
 have hall:(f.blocks.2[tq]!.phis.2.all fun p=>(uq p s.block).isSome)=true:=by
  rw[List.all_eq_true];intro p hp;obtain⟨i,_,_,e⟩:=phi_some (hS.join tq hto p hp s.block h.bl hl);rw[e];rfl
 unfold qw;rw[if_pos hall];obtain⟨o1,o2,o3⟩:=phis_out s s.block f.blocks.2[tq]!.phis.2 s;have hd:∀p∈f.blocks.2[tq]!.phis.2,0≤p.dst∧p.dst<(f.nv:Int):=fun p hp=>(hS.phi tq hto p hp).dst;refine⟨by show(lu _ s s s.block).out.ending≠2;rw[o1];exact hn,fun _=>⟨hto,Nat.zero_le _, ?_,fun op l hc=> ?_⟩⟩
 ·have F:∀(ps:List jk) (t:StM),Full f.nv t→Full f.nv (lu ps s t s.block):=fun ps=>by
   induction ps with
   |nil=>intro t ht;exact ht
   |cons p ps ih=>
    intro t ht;unfold lu;rw[List.foldl_cons];cases uq p s.block with
    |none=>exact ih t ht
    |some a=>exact ih _ (((ht.jg _ _).lq _ _).mg _ _)
  exact(F _ s h.full).of rfl rfl rfl
 ·obtain⟨g,hg,hw⟩:=h.mrk op l hc;refine⟨tF f op l s.block g,.step hg (succF_mem.2 ⟨hto,hl⟩),fun ht=> ?_⟩;unfold lm at ht;rw[List.take_zero,List.foldl_nil]at ht;obtain⟨h1,h2⟩:=fold_phi ht;have e:s.pc=f.blocks.2[s.block]!.insts.2.length:=(by have:=h.pc;omega);unfold tF at h1;rw[←e]at h1;have hs:=(sim_phis (fun v hv=>(hc.arg v hv).1) s s.block f.blocks.2[tq]!.phis.2 s h.full hd h2).1;exact pass_sim (hs.trans (Sim.same rfl rfl rfl)) hc.pos (hw h1)
theorem safe_begin {f:ax} (ty:Int→Int) (args:List ArgM) (arrays:List (List Int)) (hp:0<f.nb):SafeS f (qg f.nv ty args arrays):=
 ⟨by show (3 : Int) ≠ 2; decide, fun _ => ⟨hp, Nat.zero_le _, begin_full .., fun op l hc => ⟨false, .start, fun h => by
  have hz:lm f.blocks.2[0]! op l 0 false=false:=by
   unfold lm;rw[List.take_zero,List.foldl_nil];cases e:f.blocks.2[0]!.phis.2.foldl (phiG l) false with
   |false=>rfl
   |true=>exact(fold_phi e).1.symm
  have h:lm f.blocks.2[0]! op l 0 false=true:=h
  rw[hz]at h;cases h⟩⟩⟩
def StM.uw (s:StM) (p k:Nat) (c:List Nat):StM:={s with pc:=p,out:={s.out with steps:=k,checks:=c}}
theorem vary_ite {q:Prop} [Decidable q] (a b:StM) (p k:Nat) (c:List Nat):(if q then a.uw p k c else b.uw p k c)=(if q then a else b).uw p k c:=by split<;>rfl
theorem raw_vary (s:StM) (x:cu) (p k:Nat) (c:List Nat):vg (s.uw p k c) x=(vg s x).uw p k c:=by
 unfold vg;simp only[←vary_ite];rfl
theorem check_vary (s:StM) (op:Int) (l:List Int) (p k:Nat) (c:List Nat):∃c',qf (s.uw p k c) op l=(qf s op l).uw p k c':=by
 refine⟨c.set (op -17).toNat (c[(op -17).toNat]! +1), ?_⟩;unfold qf;simp only[←vary_ite];rfl
theorem inst_vary (s:StM) (x:cu) (p k:Nat) (c:List Nat):∃c',di (s.uw p k c) x=(di s x).uw p k c':=by
 unfold di;split
 ·exact check_vary s _ _ p k c
 ·exact⟨c,raw_vary s x p k c⟩
theorem inst_same (s:StM) {x y:cu} (h:SameI x y):di s x=di s y:=by
 unfold di vg qf;rw[h.1,h.2.1,h.2.2.1,h.2.2.2]
def Am (p:jk):Int×List Int×List Int:=(p.dst,p.args.2,p.froms.2)
theorem phiArg_key {p q:jk} (h:Am q=Am p) (b:Nat):uq q b=uq p b:=by
 unfold Am at h;simp only[Prod.mk.injEq]at h;unfold uq;rw[h.2.1,h.2.2]
theorem phis_vary (old:StM) (b p k:Nat) (c:List Nat):∀{ps qs:List jk} (s:StM),qs.map Am=ps.map Am→lu qs (old.uw p k c) (s.uw p k c) b=(lu ps old s b).uw p k c
 |[],[],s,_=>rfl
 |z::ps,[],s,h=>by simp at h
 |[],y::qs,s,h=>by simp at h
 |z::ps,y::qs,s,h=>by
  simp only[List.map_cons,List.cons.injEq]at h;have e:=phiArg_key h.1 b;have hd:y.dst=z.dst:=(by have:=h.1;unfold Am at this;simp only[Prod.mk.injEq]at this;exact this.1);unfold lu;rw[List.foldl_cons,List.foldl_cons,e];cases uq z b with
  |none=>exact phis_vary old b p k c s h.2
  |some a=>
   simp only[hd];exact phis_vary old b p k c (((s.jg z.dst (old.I a)).lq z.dst (old.B a)).mg z.dst (old.A a)) h.2
theorem all_key (b:Nat):∀{ps qs:List jk},qs.map Am=ps.map Am→(qs.all fun p=>(uq p b).isSome)=(ps.all fun p=>(uq p b).isSome)
 |[],[],_=>rfl
 |z::ps,[],h=>by simp at h
 |[],y::qs,h=>by simp at h
 |z::ps,y::qs,h=>by
  simp only[List.map_cons,List.cons.injEq]at h;rw[List.all_cons,List.all_cons,phiArg_key h.1 b,all_key b h.2]
theorem enter_vary {bf bg:Nat→df} (s:StM) (tq p k:Nat) (c:List Nat) (h:(bg tq).phis.2.map Am=(bf tq).phis.2.map Am):qw bg (s.uw p k c) tq=(qw bf s tq).uw 0 k c:=by
 unfold qw;rw[show(s.uw p k c).block=s.block from rfl,all_key s.block h,←vary_ite,phis_vary s s.block p k c s h];rfl
theorem step_next {blk:Nat→df} {s:StM} (h:s.pc<(blk s.block).insts.2.length):Da blk s=di s.tick.next (blk s.block).insts.2[s.pc]! :=by rw[step_eq,if_pos h]
theorem Dm {blk:Nat→df} {s:StM} (h:s.ended=true):∀n,um blk n s=s
 |0=>rfl
 |n+1=>by show(if s.ended=true then s else _)=s;rw[if_pos h]
theorem Bd {blk:Nat→df} {s:StM} (h:s.ended=false) (n:Nat):um blk (n+1) s=um blk n (Da blk s):=by
 show(if s.ended=true then s else _)=_;rw[if_neg (by rw[h];decide)]
theorem raw_stuck {n:Nat} {ty:Int→Int} {s:StM} {x:cu} (hx:Cu n ty x) (hr:inL rf x.op=true) (hp:gy s (ik x.op.toNat).1 (iq x x.op.toNat)=false):di s x=s.fin 2:=by
 have hm:=inL_iff.1 hr;unfold rf at hm;simp only[List.mem_cons,List.not_mem_nil,or_false]at hm;have L:=hx.len;unfold di;rw[if_neg (by omega)];rcases hm with e|e|e|e|e|e
 ·have h2:=L (by omega);rw[e]at h2 hp
  match hl:x.args.2,h2 with
  |[a,b],_=>
   rw[show ik (5:Int).toNat=(20,1,1)from rfl,show iq x (5:Int).toNat=[b] by unfold iq;rw[hl];rfl]at hp;have hb:s.I b=0:=(by unfold gy at hp;simpa using hp);unfold vg;simp only[e,hl,Int.reduceEq,or_self,if_false,if_true, ↓reduceIte];show(if s.I b=0 then _ else _)=_;rw[if_pos hb]
 ·have h2:=L (by omega);rw[e]at h2 hp
  match hl:x.args.2,h2 with
  |[a,b],_=>
   rw[show ik (6:Int).toNat=(20,1,1)from rfl,show iq x (6:Int).toNat=[b] by unfold iq;rw[hl];rfl]at hp;have hb:s.I b=0:=(by unfold gy at hp;simpa using hp);unfold vg;simp only[e,hl,Int.reduceEq,or_self,if_false,if_true, ↓reduceIte];show(if s.I b=0 then _ else _)=_;rw[if_pos hb]
 ·have h2:=L (by omega);rw[e]at h2 hp
  match hl:x.args.2,h2 with
  |[a],_=>
   rw[show ik (12:Int).toNat=(19,0,1)from rfl,show iq x (12:Int).toNat=[a] by unfold iq;rw[hl];rfl]at hp;have hb:s.A a<0:=(by unfold gy at hp;simp at hp;omega);unfold vg;simp only[e,hl,Int.reduceEq,or_self,if_false,if_true, ↓reduceIte];show(if s.A a<0 then _ else _)=_;rw[if_pos hb]
 ·have h2:=L (by omega);rw[e]at h2 hp
  match hl:x.args.2,h2 with
  |[a,b],_=>
   rw[show ik (13:Int).toNat=(18,0,2)from rfl,show iq x (13:Int).toNat=[a,b] by unfold iq;rw[hl];rfl]at hp;have hb:¬mh s (s.A a) (s.I b)=true:=(by rw[show mh s (s.A a) (s.I b)=false from hp];decide);unfold vg;simp only[e,hl,Int.reduceEq,or_self,if_false,if_true, ↓reduceIte];show(if mh s (s.A a) (s.I b)=true then _ else _)=_;rw[if_neg hb]
 ·have h2:=L (by omega);rw[e]at h2 hp
  match hl:x.args.2,h2 with
  |[a,b,d],_=>
   rw[show ik (14:Int).toNat=(18,0,2)from rfl,show iq x (14:Int).toNat=[a,b] by unfold iq;rw[hl];rfl]at hp;have hb:¬mh s (s.A a) (s.I b)=true:=(by rw[show mh s (s.A a) (s.I b)=false from hp];decide);unfold vg;simp only[e,hl,Int.reduceEq,or_self,if_false,if_true, ↓reduceIte];show(if mh s (s.A a) (s.I b)=true then _ else _)=_;rw[if_neg hb]
 ·have h2:=L (by omega);rw[e]at h2 hp
  match hl:x.args.2,h2 with
  |[a],_=>
   rw[show ik (15:Int).toNat=(24,0,1)from rfl,show iq x (15:Int).toNat=[a] by unfold iq;rw[hl];rfl]at hp;have hb:s.I a<0∨64<s.I a:=(by unfold gy at hp;simp at hp;omega);unfold vg;simp only[e,hl,Int.reduceEq,or_self,if_false,if_true, ↓reduceIte];show(if s.I a<0∨64<s.I a then _ else _)=_;rw[if_pos hb]
theorem made_phis {f g:ax} (h:xk (rq f) f g) {b:Nat} (hb:b<f.nb):g.blocks.2[b]!.phis.2.map Am=f.blocks.2[b]!.phis.2.map Am:=by
 have hB:=h.blk b hb;refine list_ext_bang hB.plen fun k hk=> ?_;obtain⟨e1,e2,e3⟩:=hB.phi k (by rw[←hB.plen];exact hk);unfold Am;rw[←e1,←e2,←e3]
noncomputable def pcG (f:ax) (s:StM):Nat:=(mkL (fun j=> !ou f s.block j) f.blocks.2[s.block]!.insts.2 s.pc).length
theorem mk_at {lk:Nat→Bool} {l:List cu} {j:Nat} (hj:j<l.length):
  (lk j=false→(mkL lk l j).length<(mkL lk l l.length).length∧(mkL lk l l.length)[(mkL lk l j).length]! =l[j]! ∧(mkL lk l (j+1)).length=(mkL lk l j).length+1)∧
  (lk j=true→(mkL lk l j).length+1<(mkL lk l l.length).length∧(mkL lk l l.length)[(mkL lk l j).length]! =su l[j]! ∧(mkL lk l l.length)[(mkL lk l j).length+1]! =l[j]! ∧(mkL lk l (j+1)).length=(mkL lk l j).length+2):=by
 obtain⟨r,hr⟩:=mkL_pre lk l (show j+1≤l.length from hj);rw[yj]at hr;constructor
 ·intro h;have e:mkO lk l j=[l[j]!]:=(by unfold mkO;rw[if_neg (by rw[h];decide)]);rw[e]at hr;have hl:(mkL lk l l.length).length=(mkL lk l j).length+1+r.length:=(by rw[hr];simp;omega);refine⟨by omega, ?_,by rw[yj,e];simp⟩;rw[hr,getElem!_pos _ _ (by simp),List.getElem_append_left (by simp),List.getElem_append_right (Nat.le_refl _)];simp
 ·intro h;have e:mkO lk l j=[su l[j]!,l[j]!]:=(by unfold mkO;rw[if_pos h]);rw[e]at hr;have hl:(mkL lk l l.length).length=(mkL lk l j).length+2+r.length:=(by rw[hr];simp;omega);refine⟨by omega, ?_, ?_,by rw[yj,e];simp⟩
  ·rw[hr,getElem!_pos _ _ (by simp),List.getElem_append_left (by simp),List.getElem_append_right (Nat.le_refl _)];simp
  ·rw[hr,getElem!_pos _ _ (by simp),List.getElem_append_left (by simp),List.getElem_append_right (by omega)];simp
structure TI (f:ax) (s:StM):Prop where
 safe:SafeI f s
 en:s.ended=false
 e:s.out.ending=3
def StuckAt (f:ax) (s:StM):Prop:=s.ended=true∧s.out.ending=2∧s.block<f.nb∧0<s.pc∧s.pc≤f.blocks.2[s.block]!.insts.2.length∧inL rf f.blocks.2[s.block]!.insts.2[s.pc -1]!.op=true
def trapOf (f:ax) (s:StM):Int:=(ik f.blocks.2[s.block]!.insts.2[s.pc -1]!.op.toNat).1 -17
def trapped (s:StM) (z:Int):StM:={s with out:={s.out with ending:=1,trap:=z}}
def After (f:ax) (s t:StM):Prop:=
 (TI f s∧∃k c,t=s.uw (pcG f s) k c)∨(s.ended=true∧s.out.ending≠2∧∃p k c,t=s.uw p k c)∨(StuckAt f s∧∃p k c,t=(trapped s (trapOf f s)).uw p k c)
theorem need_check {k:Nat} (hk:k<27) (h:inL rf (k:Int)=true):18≤(ik k).1∧(ik k).1≤24:=by
 rcases Ak hk h with rfl|rfl|rfl|rfl|rfl|rfl<;>decide
theorem inst_go {f:ax} {ty:Int→Int} {s:StM} (h:TI f s) (hS:SafeOK f ty) (hp:s.pc<f.blocks.2[s.block]!.insts.2.length) {x:cu} (hx:f.blocks.2[s.block]!.insts.2[s.pc]! =x) (hxo:Cu f.nv ty x)
  (hg:inL rf x.op=true→gy s.tick.next (ik x.op.toNat).1 (iq x x.op.toNat)=true) {t:StM} {p k:Nat} {c:List Nat} (hpc:p=(mkL (fun j=> !ou f s.block j) f.blocks.2[s.block]!.insts.2 (s.pc+1)).length) (ht:t=(di s.tick.next x).uw p k c):After f (di s.tick.next x) t:=by
 have hI:=h.safe;obtain⟨b1,b2⟩:=stays_inst s.tick.next x;rcases inst_trail (s:=s.tick.next) (hI.full.of rfl rfl rfl) hxo (by rw[show s.tick.next.out.ending=s.out.ending from rfl,h.e];decide) hg with hD|hR
 ·exact .inr (.inl ⟨hD.1,hD.2,p,k,c,ht⟩)
 ·refine .inl ⟨⟨⟨by rw[b1];exact hI.bl,by rw[b1,b2];exact hp,hR.full,fun op l hc=> ?_⟩,by rw[hR.out.2];exact h.en,by rw[hR.out.1];exact h.e⟩,k,c, ?_⟩
  ·refine step_mark (s:=s) hx.symm hp b1 b2 (hI.mrk op l hc) (fun hi=> ?_) (fun hd hw=> ?_)
   ·obtain⟨i1,i2⟩:=isB_iff.1 hi;have:=hR.chk (by rw[i1];exact hc.op);rw[i1,i2]at this;exact this
   ·exact pass_sim ((Sim.same rfl rfl rfl:Sim s s.tick.next l).trans (hR.sim l (fun v hv=>(hc.arg v hv).1) hd)) hc.pos hw
  ·rw[ht,hpc];unfold pcG;rw[b1,b2];rfl
theorem trap_step {f g:ax} {ty:Int→Int} (hS:SafeOK f ty) (hM:xk (rq f) f g) {s:StM} (h:TI f s) {k:Nat} {c:List Nat}:
  ∃n,n≤1∧After f (Da (fun b=>f.blocks.2[b]!) s) (um (fun b=>g.blocks.2[b]!) (n+1) (s.uw (pcG f s) k c)):=by
 have hI:=h.safe;have hB:=hS.ok _ hI.bl;have hz:=hM.blk _ hI.bl;have hte:(s.uw (pcG f s) k c).ended=false:=h.en;rw[step_eq];by_cases hp:s.pc<f.blocks.2[s.block]!.insts.2.length
 ·rw[if_pos hp];have hm:f.blocks.2[s.block]!.insts.2[s.pc]! ∈f.blocks.2[s.block]!.insts.2:=(by rw[getElem!_pos f.blocks.2[s.block]!.insts.2 _ hp];exact List.getElem_mem hp);have hx:=hB.inst _ hm;obtain⟨hno,hye⟩:=mk_at (lk:=fun j=> !ou f s.block j) hp;generalize hxe:f.blocks.2[s.block]!.insts.2[s.pc]! =x at*;cases hgd:ou f s.block s.pc with
  |true=>
   obtain⟨q1,q2,q3⟩:=hno (by simp[hgd]);have hgp:=gdD_is hgd
   have hg:inL rf x.op=true→gy s.tick.next (ik x.op.toNat).1 (iq x x.op.toNat)=true:=fun hr=>by
    have hc:=chk_of (k:=0) hx hr;obtain⟨g,hg,hw⟩:=hI.mrk _ _ hc;unfold GuardP at hgp;rw[hxe]at hgp;rcases hgp with q|q|q
    ·rw[q]at hr;cases hr
    ·exact absurd (gway_reach hg) q
    ·exact pass_sim (Sim.same rfl rfl rfl) hc.pos (hw (q g hg))
   refine⟨0,by omega, ?_⟩;have hlt:pcG f s<(g.blocks.2[s.block]!).insts.2.length:=(by rw[hz.ilen];exact q1);have hsame:=hz.ins (pcG f s) (by rw[←hz.ilen];exact hlt);have hq2:(rq f s.block)[pcG f s]! =x:=q2;rw[hq2]at hsame;rw[Bd hte];show After f _ (Da _ _);rw[step_next (blk:=fun b=>g.blocks.2[b]!) (s:=s.uw (pcG f s) k c) hlt];show After f _ (di _ (g.blocks.2[s.block]!.insts.2[pcG f s]!));rw[inst_same _ hsame];obtain⟨c',hc'⟩:=inst_vary s.tick.next x (pcG f s+1) (k+1) c;exact inst_go h hS hp hxe hx hg (p:=pcG f s+1) (k:=k+1) (c:=c') q3.symm hc'
  |false=>
   obtain⟨q1,q2,q3,q4⟩:=hye (by simp[hgd])
   have hr:inL rf x.op=true:=by
    cases hr:inL rf x.op with
    |true=>rfl
    |false=>rw[Ar (f:=f) (b:=s.block) (pl:=s.pc) (.inl (by rw[hxe];exact hr))]at hgd;cases hgd
   have hlt:pcG f s+1<(g.blocks.2[s.block]!).insts.2.length:=(by rw[hz.ilen];exact q1);have hs1:=hz.ins (pcG f s) (by rw[←hz.ilen];omega);have hs2:=hz.ins (pcG f s+1) (by rw[←hz.ilen];exact hlt);rw[show(rq f s.block)[pcG f s]! =su x from q2]at hs1;rw[show(rq f s.block)[pcG f s+1]! =x from q3]at hs2;have hop:=need_check (k:=x.op.toNat) (by have:=hx.op;omega) (by rw[show((x.op.toNat:Nat):Int)=x.op by have:=hx.op;omega];exact hr)
   have hstep1:Da (fun b=>g.blocks.2[b]!) (s.uw (pcG f s) k c)=qf (s.tick.next.uw (pcG f s+1) (k+1) c) (ik x.op.toNat).1 (iq x x.op.toNat):=by
    rw[step_next (blk:=fun b=>g.blocks.2[b]!) (s:=s.uw (pcG f s) k c) (by show pcG f s<(g.blocks.2[s.block]!).insts.2.length;omega)];show di _ (g.blocks.2[s.block]!.insts.2[pcG f s]!)=_;rw[inst_same _ hs1];unfold di;rw[if_pos (show 18≤(su x).op∧(su x).op≤24 from hop)];rfl
   cases hpass:gy s.tick.next (ik x.op.toNat).1 (iq x x.op.toNat)with
   |true=>
    refine⟨1,by omega, ?_⟩
    have e1:∃c1,qf (s.tick.next.uw (pcG f s+1) (k+1) c) (ik x.op.toNat).1 (iq x x.op.toNat)=s.tick.next.uw (pcG f s+1) (k+1) c1:=by
     refine⟨c.set ((ik x.op.toNat).1 -17).toNat (c[((ik x.op.toNat).1 -17).toNat]! +1), ?_⟩;unfold qf;simp only;rw[show gy (s.tick.next.uw (pcG f s+1) (k+1) c) (ik x.op.toNat).1 (iq x x.op.toNat)=gy s.tick.next (ik x.op.toNat).1 (iq x x.op.toNat)from rfl,hpass,if_pos rfl];rfl
    obtain⟨c1,e1⟩:=e1;rw[Bd hte,hstep1,e1,Bd (s:=s.tick.next.uw (pcG f s+1) (k+1) c1) h.en];show After f _ (Da _ _);rw[step_next (blk:=fun b=>g.blocks.2[b]!) (s:=s.tick.next.uw (pcG f s+1) (k+1) c1) hlt];show After f _ (di _ (g.blocks.2[s.block]!.insts.2[pcG f s+1]!));rw[inst_same _ hs2];obtain⟨c',hc'⟩:=inst_vary s.tick.next x (pcG f s+1+1) (k+1+1) c1;exact inst_go h hS hp hxe hx (fun _=>hpass) (p:=pcG f s+1+1) (k:=k+1+1) (c:=c') q4.symm hc'
   |false=>
    refine⟨0,by omega, ?_⟩;rw[Bd hte,hstep1];show After f _ (qf _ _ _);rw[raw_stuck hx hr hpass];refine .inr (.inr ⟨⟨rfl,rfl,hI.bl,Nat.succ_pos _,hp, ?_⟩,pcG f s+1,k+1,c.set ((ik x.op.toNat).1 -17).toNat (c[((ik x.op.toNat).1 -17).toNat]! +1), ?_⟩)
    ·show inL rf f.blocks.2[s.block]!.insts.2[s.pc+1 -1]!.op=true;rw[Nat.add_sub_cancel,hxe];exact hr
    ·have ht:trapOf f (s.tick.next.fin 2)=(ik x.op.toNat).1 -17:=by
      show(ik f.blocks.2[s.block]!.insts.2[s.pc+1 -1]!.op.toNat).1 -17=_;rw[Nat.add_sub_cancel,hxe]
     rw[ht];unfold qf;simp only;rw[show gy (s.tick.next.uw (pcG f s+1) (k+1) c) (ik x.op.toNat).1 (iq x x.op.toNat)=gy s.tick.next (ik x.op.toNat).1 (iq x x.op.toNat)from rfl,hpass,if_neg (by decide)];rfl
 ·rw[if_neg hp];have hpe:s.pc=f.blocks.2[s.block]!.insts.2.length:=by have:=hI.pc;omega
  have hge:¬pcG f s<(g.blocks.2[s.block]!).insts.2.length:=by
   rw[hz.ilen];unfold pcG rq;rw[hpe];omega
  refine⟨0,by omega, ?_⟩;rw[Bd hte];show After f _ (Da _ _);rw[step_eq (fun b=>g.blocks.2[b]!) (s.uw (pcG f s) k c)];show After f _ (if pcG f s<(g.blocks.2[s.block]!).insts.2.length then _ else if(g.blocks.2[s.block]!).kind=2 then((s.uw (pcG f s) k c).tick.val (s.I (g.blocks.2[s.block]!).var)).fin 0 else if(g.blocks.2[s.block]!).kind=0∨s.B (g.blocks.2[s.block]!).var=true then qw (fun b=>g.blocks.2[b]!) (s.uw (pcG f s) k c).tick (g.blocks.2[s.block]!).to0.toNat else qw (fun b=>g.blocks.2[b]!) (s.uw (pcG f s) k c).tick (g.blocks.2[s.block]!).to1.toNat);rw[if_neg hge,hz.kind,hz.var,hz.to0,hz.to1];by_cases h2:f.blocks.2[s.block]!.kind=2
  ·rw[if_pos h2,if_pos h2];exact .inr (.inl ⟨rfl,by show(0:Int)≠2;decide,pcG f s,k+1,c,rfl⟩)
  ·rw[if_neg h2,if_neg h2]
   have hT : SafeI f s.tick := ⟨hI.bl, hI.pc, hI.full.of rfl rfl rfl, fun op l hc => by
    obtain⟨g,hg,hw⟩:=hI.mrk op l hc
    exact⟨g,hg,fun q=>pass_sim (Sim.same rfl rfl rfl) hc.pos (hw q)⟩⟩
   have enter:∀t:Int,0≤t∧t<(f.nb:Int)→kw f.blocks.2[s.block]! t=true→After f (qw (fun b=>f.blocks.2[b]!) s.tick t.toNat) (qw (fun b=>g.blocks.2[b]!) (s.uw (pcG f s) k c).tick t.toNat):=fun t ht hl=>by
    have htn:t.toNat<f.nb:=(by omega);have hs:=safe_enter hS hT (by rw[show s.tick.out.ending=s.out.ending from rfl,h.e];decide) h.en hp htn (by rw[show((t.toNat:Nat):Int)=t by omega];exact hl);have hv:=enter_vary (bf:=fun b=>f.blocks.2[b]!) (bg:=fun b=>g.blocks.2[b]!) s.tick t.toNat (pcG f s) (k+1) c (made_phis hM htn);rw[show(s.uw (pcG f s) k c).tick=s.tick.uw (pcG f s) (k+1) c from rfl,hv]
    have hall:(f.blocks.2[t.toNat]!.phis.2.all fun p=>(uq p s.block).isSome)=true:=by
     rw[List.all_eq_true];intro p hp;obtain⟨i,_,_,e⟩:=phi_some (hS.join t.toNat htn p hp s.block hI.bl (by rw[show((t.toNat:Nat):Int)=t by omega];exact hl));rw[e];rfl
    have eE:qw (fun b=>f.blocks.2[b]!) s.tick t.toNat={lu f.blocks.2[t.toNat]!.phis.2 s.tick s.tick s.block with block:=t.toNat,pc:=0}:=by
     unfold qw;rw[show((fun b=>f.blocks.2[b]!) t.toNat)=f.blocks.2[t.toNat]! from rfl,show s.tick.block=s.block from rfl,if_pos hall]
    obtain⟨o1,o2,o3⟩:=phis_out s.tick s.block f.blocks.2[t.toNat]!.phis.2 s.tick;have hen:(qw (fun b=>f.blocks.2[b]!) s.tick t.toNat).ended=false:=(by rw[eE];exact o2.trans h.en);have hee:(qw (fun b=>f.blocks.2[b]!) s.tick t.toNat).out.ending=3:=(by rw[eE];show(lu _ _ _ _).out.ending=3;rw[o1];exact h.e);refine .inl ⟨⟨hs.2 hen,hen,hee⟩,k+1,c, ?_⟩;rw[show pcG f (qw (fun b=>f.blocks.2[b]!) s.tick t.toNat)=0 by rw[eE];rfl]
   split
   ·rename_i h3;rcases hB.kind with hk|hk|hk
    ·exact enter _ (hB.jump hk) (leads_of hB (.inl ⟨hk,rfl⟩))
    ·have:=hB.iff hk;exact enter _ ⟨this.1,this.2.1⟩ (leads_of hB (.inr ⟨hk,.inl rfl⟩))
    ·exact absurd hk h2
   ·rename_i h3;rcases hB.kind with hk|hk|hk
    ·exact absurd (Or.inl hk) h3
    ·have:=hB.iff hk;exact enter _ ⟨this.2.2.1,this.2.2.2.1⟩ (leads_of hB (.inr ⟨hk,.inr rfl⟩))
    ·exact absurd hk h2
theorem runM_add {blk:Nat→df}:∀(n m:Nat) (s:StM),um blk (n+m) s=um blk m (um blk n s)
 |0,m,s=>by rw[Nat.zero_add];rfl
 |n+1,m,s=>by
  cases h:s.ended with
  |true=>rw[Dm h,Dm h,Dm h]
  |false=>rw[show n+1+m=n+m+1 by omega,Bd h,Bd h,runM_add n m]
theorem trap_run {f g:ax} {ty:Int→Int} (hS:SafeOK f ty) (hM:xk (rq f) f g):∀(k:Nat) (s t:StM),After f s t→∃n,n≤2*k∧After f (um (fun b=>f.blocks.2[b]!) k s) (um (fun b=>g.blocks.2[b]!) n t):=fun k=>by
 induction k with
 |zero=>intro s t h;exact⟨0,Nat.le_refl _,h⟩
 |succ k ih=>
  intro s t h;rcases h with⟨hI,q,c,rfl⟩|h|h
  ·obtain⟨n,hn,hA⟩:=trap_step hS hM hI (k:=q) (c:=c);obtain⟨m,hm,hB⟩:=ih _ _ hA;refine⟨n+1+m,by omega, ?_⟩;rw[Bd hI.en,runM_add];exact hB
  ·exact⟨0,Nat.zero_le _,by rw[Dm h.1];exact .inr (.inl h)⟩
  ·exact⟨0,Nat.zero_le _,by rw[Dm h.1.1];exact .inr (.inr h)⟩
structure AlikeO (a b:OutM):Prop where
 e:b.ending=a.ending
 v:b.value=a.value
 p:b.trap=a.trap
 t:b.trace=a.trace
theorem traps_plain {f g:ax} {ty:Int→Int} (hS:SafeOK f ty) (hM:xk (rq f) f g) (hp:0<f.nb) (args:List ArgM) (arrays:List (List Int)) (k:Nat):
  let s:=um (fun b=>f.blocks.2[b]!) k (qg f.nv ty args arrays)
  let o:=um (fun b=>g.blocks.2[b]!) (2*k) (qg f.nv ty args arrays)
  (s.out.ending=3∧s.ended=false)∨(s.ended=true∧s.out.ending≠2∧AlikeO s.out o.out)∨(StuckAt f s∧AlikeO (trapped s (trapOf f s)).out o.out):=by
 have hb:SafeI f (qg f.nv ty args arrays):=(safe_begin (f:=f) ty args arrays hp).2 rfl;have h0:After f (qg f.nv ty args arrays) (qg f.nv ty args arrays):= .inl ⟨⟨hb,rfl,rfl⟩,0,_,rfl⟩;obtain⟨n,hn,hA⟩:=trap_run hS hM k _ _ h0;intro s o
 have ho:∀u,um (fun b=>g.blocks.2[b]!) n (qg f.nv ty args arrays)=u→u.ended=true→o=u:=fun u e hu=>by
  show um _ (2*k) _=u;obtain⟨m,hm⟩:∃m,2*k=n+m:=⟨2*k -n,by omega⟩;rw[hm,runM_add,e,Dm hu]
 rcases hA with⟨hI,_⟩|⟨h1,h2,p,q,c,e⟩|⟨h1,p,q,c,e⟩
 ·exact .inl ⟨hI.e,hI.en⟩
 ·have e2:=ho _ e h1;exact .inr (.inl ⟨h1,h2,by rw[e2];exact⟨rfl,rfl,rfl,rfl⟩⟩)
 ·have e2:=ho _ e h1.1;exact .inr (.inr ⟨h1,by rw[e2];exact⟨rfl,rfl,rfl,rfl⟩⟩)
end Go.Proofs.YtjllbchfojonhaaGreatDoor
namespace Go.Proofs.YtjllbchfojonhaaGreatDoor
theorem made_join {f g:ax} (hj:JoinP f) (h:xk (rq f) f g):JoinP g:=by
 intro i hi p hp a ha hl;have hi:i<f.nb:=(by rw[←h.nb];exact hi);have ha:a<f.nb:=(by rw[←h.nb];exact ha);obtain⟨k,hk,e⟩:=List.mem_iff_getElem.1 hp;have hB:=h.blk i hi;have hk2:k<f.blocks.2[i]!.phis.2.length:=(by rw[←hB.plen];exact hk);obtain⟨e1,e2,e3⟩:=hB.phi k hk2;rw[getElem!_pos g.blocks.2[i]!.phis.2 k hk,e]at e3;rw[←e3];refine hj i hi _ (az hk2) a ha ?_;have hA:=h.blk a ha;unfold kw at hl ⊢;rw[hA.kind,hA.to0,hA.to1]at hl;exact hl
theorem made_nums {f g:ax} {i:ku} (hn:NumsOK f i) (h:xk (rq f) f g):NumsOK g i:=by
 refine⟨fun b hb x hx=> ?_,hn.a,hn.e⟩;obtain⟨j,hj,e⟩:=List.mem_iff_getElem.1 hb;have hj2:j<f.nb:=(by rw[←h.nb];exact hj);obtain⟨k,hk,e2⟩:=List.mem_iff_getElem.1 hx;have hB:=h.blk j hj2;rw[getElem!_pos g.blocks.2 j hj,e]at hB;have hk2:k<(rq f j).length:=(by rw[←hB.ilen];exact hk);have hs:=hB.ins k hk2;rw[getElem!_pos b.insts.2 k hk,e2]at hs;rw[hs.2.2.2];obtain⟨m,hm,hc⟩:=mkL_at _ _ _ k hk2;have hf:=fun y hy=>hn.f _ (az (l:=f.blocks.2) hj2) y hy;unfold rq;rcases hc with⟨_,_,q⟩|⟨_,_,q⟩|⟨_,_,q⟩
 ·rw[q];exact hf _ (az hm)
 ·rw[q];show inI 0=true;decide
 ·rw[q];exact hf _ (az hm)
theorem made_right {f g:ax} {i:ku} (h:xk (rq f) f g):qp g i=qp f i:=by
 unfold qp;rw[npS h,tyS h]
noncomputable def Dp (f:ax):Bool:=Bz f&&joinedB f
structure LittleT (f:ax):Prop where
 fb:Cs f=true
 ty:jf f=0
 sh:fw f=true
 both:(fw f&&qm f)=true
 j:JoinP f
theorem few_nb {f:ax} (h:yu f):f.nb≤1000:=by have:=h.nb;omega
theorem few_phis {f:ax} (h:yu f) (b:Nat) (hb:b<f.nb):f.blocks.2[b]!.phis.2.length≤100000:=by
 have:=(h.block _ (az (l:=f.blocks.2) (k:=b) hb)).1;omega
theorem joined20_is {f:ax} (h:Dp f=true):LittleT f:=by
 unfold Dp at h;rw[Bool.and_eq_true,Cz]at h;obtain⟨⟨h1,h2⟩,h3⟩:=h;have hs:=ty_both h2;have hsh:fw f=true:=(by rw[Bool.and_eq_true]at hs;exact hs.1);exact⟨h1,h2,hsh,hs,join_all (fun i hi p hp=>(phiR_ok hsh hi p hp).2) (joined_is h3)⟩
theorem made_runOK {w:World} {f g:ax} {i:ku} (hJ:LittleT f) (hM:xk (rq f) f g) (hs:fw g=true) (hg:cz w g) (hi:Ad w i) (hn:NumsOK f i) (hr:qp f i=0):RunOK w g i:=
 run_ok hg hi (by rw[hs,(made_blocks hJ.ty hM).2];rfl) (made_few hJ.fb hM) (made_nums hn hM) (by rw[made_right hM];exact hr) (made_join hJ.j hM)
def runS (f:ax) (i:ku) (k:Nat):StM:=um (fun b=>f.blocks.2[b]!) k (qg f.nv f.tyI i.args.2 (i.arrays.2.map Prod.snd))
theorem traps_law {f g:ax} {i:ku} (hJ:LittleT f) (hM:xk (rq f) f g) (k:Nat):
  ((runS f i k).out.ending=3∧(runS f i k).ended=false)∨((runS f i k).ended=true∧(runS f i k).out.ending≠2∧AlikeO (runS f i k).out (runOf g i (2*k)))∨(StuckAt f (runS f i k)∧AlikeO (trapped (runS f i k) (trapOf f (runS f i k))).out (runOf g i (2*k))):=by
 have hb:∀b,b<f.nb→Dg f.nb f.nv f.tyI f.blocks.2[b]! :=fun b hb=>blockR_ok hJ.both hb;have h:=traps_plain (ty:=f.tyI) ⟨hb,fun b hb p hp=>(phiR_ok hJ.sh hb p hp).1,hJ.j⟩ hM (typed_nb hJ.ty) i.args.2 (i.arrays.2.map Prod.snd) k
 have e:runOf g i (2*k)=(um (fun b=>g.blocks.2[b]!) (2*k) (qg f.nv f.tyI i.args.2 (i.arrays.2.map Prod.snd))).out:=by
  unfold runOf;rw[nvS hM,tyIS hM]
 rw[e];exact h
theorem rem401 (m:Nat) (hm:m<65536):((m:Int).tmod 401=((m % 401:Nat):Int)):=by
 rw[Int.tmod_eq_emod_of_nonneg (by omega)];omega
end Go.Proofs.YtjllbchfojonhaaGreatDoor
