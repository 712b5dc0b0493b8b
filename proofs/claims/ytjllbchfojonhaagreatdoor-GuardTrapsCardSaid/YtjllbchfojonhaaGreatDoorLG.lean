/- Ways with a mark (plain): what the going through to a standstill comes to; the search depth first. ; The search depth first (plain). ; The flow of checks that were passed (plain): going through the blocks to a standstill. -/
import Derived.WalkKit
set_option linter.unusedVariables false
set_option linter.unusedSimpArgs false
set_option maxRecDepth 100000
set_option maxHeartbeats 200000000
namespace Go.Proofs.YtjllbchfojonhaaGreatDoor
inductive uh (succ:Nat→List Nat):Nat→Prop
 |start:uh succ 0
 |step {a c:Nat}:uh succ a→c∈succ a→uh succ c
inductive Di (succ:Nat→List Nat) (t:Nat→Bool→Bool):Nat→Bool→Prop
 |start:Di succ t 0 false
 |step {a c:Nat} {g:Bool}:Di succ t a g→c∈succ a→Di succ t c (t a g)
section
variable {succ:Nat→List Nat} {t:Nat→Bool→Bool}
theorem gway_reach {b:Nat} {g:Bool} (h:Di succ t b g):uh succ b:=by
 induction h with
 |start=>exact .start
 |step _ hs ih=>exact .step ih hs
theorem reach_gway {b:Nat} (h:uh succ b):∃g,Di succ t b g:=by
 induction h with
 |start=>exact⟨_,.start⟩
 |step _ hs ih=>obtain⟨g,hg⟩:=ih;exact⟨_,.step hg hs⟩
def Mono (s:Bool→Bool):Prop:=s false=true→s true=true
theorem mono_le {s:Bool→Bool} (h:Mono s) {a b:Bool} (hab:a=true→b=true) (ha:s a=true):s b=true:=by
 cases a<;>cases b
 ·exact ha
 ·exact h ha
 ·exact absurd (hab rfl) (by simp)
 ·exact ha
theorem stand_sound (J:Nat→Bool) (hm:∀a,Mono (t a)) (h0:J 0=false) (hfix:∀c,uh succ c→c≠0→J c=true→∀a,uh succ a→c∈succ a→t a (J a)=true) {b:Nat} {g:Bool} (h:Di succ t b g):J b=true→g=true:=by
 induction h with
 |start=>intro h;rw[h0]at h;cases h
 | @step a c g hw hs ih=>
  intro hJ;have hc:c≠0:=fun e=>by rw[e,h0]at hJ;cases hJ
  exact mono_le (hm a) ih (hfix c (.step (gway_reach hw) hs) hc hJ a (gway_reach hw) hs)
theorem stand_at (J:Nat→Bool) (s:Bool→Bool) (hs:Mono s) {b:Nat} (hr:uh succ b) (h1:∀g,Di succ t b g→J b=true→g=true) (h2:J b=false→Di succ t b false):
  s (J b)=true↔∀g,Di succ t b g→s g=true:=by
 constructor
 ·intro h g hg;exact mono_le hs (h1 g hg) h
 ·intro h;cases hJ:J b with
  |true=>
   obtain⟨g,hg⟩:=reach_gway (t:=t) hr;have:=h1 g hg hJ;subst this;exact h _ hg
  |false=>exact h _ (h2 hJ)
end
structure Bu (ends:Nat→List Nat) (nb:Nat) (seen:List Bool) (out:List Nat) (st:List (Nat×Nat)):Prop where
 sl:seen.length=nb
 so:∀c,c<nb→(seen[c]! =true↔c∈out∨c∈st.map Prod.fst)
 olt:∀c∈out,c<nb∧uh ends c
 slt:∀p∈st,p.1<nb∧uh ends p.1∧p.2≤(ends p.1).length
 nd:(out++st.map Prod.fst).Nodup
 empty:st=[]→out.getLast? =some 0
 bottom:st≠[]→(st.map Prod.fst).head? =some 0
 od:∀c∈out,∀d∈ends c,seen[d]! =true
 sd:∀p∈st,∀j,j<p.2→seen[(ends p.1)[j]!]! =true
section
variable {ends:Nat→List Nat} {nb:Nat} {seen:List Bool} {out:List Nat} {pre:List (Nat×Nat)} {c k:Nat}
def cntF (l:List Bool):Nat:=(l.filter (fun b=> !b)).length
def De (ends:Nat→List Nat) (seen:List Bool) (st:List (Nat×Nat)):Nat:=4*cntF seen+(st.map fun p=>(ends p.1).length -p.2+1).sum
theorem cntF_set (l:List Bool) (i:Nat) (hi:i<l.length) (h:l[i]! =false):cntF (l.set i true)+1=cntF l:=by
 induction l generalizing i with
 |nil=>exact absurd hi (Nat.not_lt_zero _)
 |cons b l ih=>
  cases i with
  |zero=>
   have hb:b=false:=(by simpa using h);subst hb;simp[cntF]
  |succ i=>
   have:=ih i (by simpa using hi) (by simpa using h);unfold cntF at*;cases b<;>simp at this ⊢ <;>omega
theorem lb_set {l:List Bool} {i j:Nat} {b:Bool} (hi:i<l.length):(l.set i b)[j]! =if j=i then b else l[j]! :=by
 by_cases hj:j<l.length
 ·rw[getElem!_pos _ j (by simpa using hj),getElem!_pos l j hj,List.getElem_set];by_cases e:i=j
  ·rw[if_pos e,if_pos e.symm]
  ·rw[if_neg e,if_neg (Ne.symm e)]
 ·rw[getElem!_neg _ j (by simpa using hj),getElem!_neg l j hj,if_neg (by omega)]
theorem dfs_start (h:0<nb):Bu ends nb ((List.replicate nb false).set 0 true) [] [(0,0)]:=by
 refine⟨by simp,fun c hc=> ?_,by simp, ?_,by simp,by simp,by simp,by simp, ?_⟩
 ·rw[lb_set (by simpa using h)];by_cases e:c=0
  ·simp[e]
  ·rw[if_neg e,getElem!_pos _ c (by simpa using hc)];simp[e]
 ·intro p hp;simp only[List.mem_singleton]at hp;subst hp;exact⟨h,.start,Nat.zero_le _⟩
 ·intro p hp j hj;simp only[List.mem_singleton]at hp;subst hp;exact absurd hj (Nat.not_lt_zero _)
theorem dfs_pop (h:Bu ends nb seen out (pre++[(c,(ends c).length)])):Bu ends nb seen (out++[c]) pre:=by
 have hnd:=h.nd;rw[List.map_append,List.map_singleton,←List.append_assoc]at hnd;refine⟨h.sl,fun d hd=> ?_,fun d hd=> ?_,fun p hp=>h.slt p (List.mem_append_left _ hp), ?_,fun e=> ?_,fun e=> ?_,fun d hd=> ?_,fun p hp=>h.sd p (List.mem_append_left _ hp)⟩
 ·rw[h.so d hd];simp only[List.map_append,List.map_singleton,List.mem_append,List.mem_singleton];constructor
  ·rintro(h1|h1|h1)
   ·exact .inl (.inl h1)
   ·exact .inr h1
   ·exact .inl (.inr h1)
  ·rintro((h1|h1)|h1)
   ·exact .inl h1
   ·exact .inr (.inr h1)
   ·exact .inr (.inl h1)
 ·rcases List.mem_append.1 hd with h1|h1
  ·exact h.olt d h1
  ·have:=h.slt (c,(ends c).length) (by simp);rw[List.mem_singleton.1 h1];exact⟨this.1,this.2.1⟩
 ·have:(out++List.map Prod.fst pre++[c]).Perm (out++[c]++List.map Prod.fst pre):=by
   rw[List.append_assoc,List.append_assoc];exact List.Perm.append_left _ List.perm_append_comm
  exact this.nodup_iff.1 hnd
 ·subst e;have:=h.bottom (by simp);simp at this;simp[this]
 ·have:=h.bottom (by simp);cases pre with
  |nil=>exact absurd rfl e
  |cons x l=>simpa using this
 ·rcases List.mem_append.1 hd with h1|h1
  ·exact h.od d h1
  ·rw[List.mem_singleton.1 h1];intro x hx;obtain⟨j,hj,rfl⟩:=List.mem_iff_getElem.1 hx;have:=h.sd (c,(ends c).length) (by simp) j hj
   rwa [getElem!_pos (ends c) j hj]at this
theorem dfs_old (h:Bu ends nb seen out (pre++[(c,k)])) (hk:k<(ends c).length) (hs:seen[(ends c)[k]!]! =true):Bu ends nb seen out (pre++[(c,k+1)]):=by
 have e:(pre++[(c,k+1)]).map Prod.fst=(pre++[(c,k)]).map Prod.fst:=(by simp);refine⟨h.sl,fun d hd=>by rw[e];exact h.so d hd,h.olt,fun p hp=> ?_,by rw[e];exact h.nd,fun h2=>by simp at h2,fun _=>by rw[e];exact h.bottom (by simp),h.od,fun p hp j hj=> ?_⟩
 ·rcases List.mem_append.1 hp with h1|h1
  ·exact h.slt p (List.mem_append_left _ h1)
  ·rw[List.mem_singleton.1 h1];have:=h.slt (c,k) (by simp);exact⟨this.1,this.2.1,hk⟩
 ·rcases List.mem_append.1 hp with h1|h1
  ·exact h.sd p (List.mem_append_left _ h1) j hj
  ·rw[List.mem_singleton.1 h1]at hj ⊢;by_cases e:j=k
   ·subst e;exact hs
   ·exact h.sd (c,k) (by simp) j (show j<k by simp at hj;omega)
theorem dfs_new (h:Bu ends nb seen out (pre++[(c,k)])) (hk:k<(ends c).length) (hlt:(ends c)[k]! <nb) (hs:seen[(ends c)[k]!]! =false):Bu ends nb (seen.set (ends c)[k]! true) out (pre++[(c,k+1)]++[((ends c)[k]!,0)]):=by
 have hd0:(ends c)[k]! <seen.length:=(by rw[h.sl];exact hlt);have hmem:(ends c)[k]! ∈ends c:=(by rw[getElem!_pos _ k hk];exact List.getElem_mem hk);have hmap:(pre++[(c,k+1)]++[((ends c)[k]!,0)]).map Prod.fst=(pre++[(c,k)]).map Prod.fst++[(ends c)[k]!]:=(by simp);have hc:=h.slt (c,k) (by simp);generalize hdd:(ends c)[k]! =d at*
 have hnot:d∉out++(pre++[(c,k)]).map Prod.fst:=fun hm=>by
  have:=(h.so d hlt).2 (List.mem_append.1 hm);rw[hs]at this;cases this
 have up:∀x:Nat,seen[x]! =true→(seen.set d true)[x]! =true:=fun x hx=>by
  rw[lb_set hd0];split
  ·rfl
  ·exact hx
 refine⟨by simp[h.sl],fun x hx=> ?_,h.olt,fun p hp=> ?_, ?_,fun h2=>by simp at h2,fun _=> ?_,fun x hx y hy=>up _ (h.od x hx y hy),fun p hp j hj=> ?_⟩
 ·rw[lb_set hd0,hmap];by_cases e:x=d
  ·simp[e]
  ·rw[if_neg e,h.so x hx];simp[e]
 ·rcases List.mem_append.1 hp with h1|h1
  ·rcases List.mem_append.1 h1 with h2|h2
   ·exact h.slt p (List.mem_append_left _ h2)
   ·rw[List.mem_singleton.1 h2];exact⟨hc.1,hc.2.1,hk⟩
  ·rw[List.mem_singleton.1 h1];exact⟨hlt,.step hc.2.1 hmem,Nat.zero_le _⟩
 ·rw[hmap,←List.append_assoc];refine List.nodup_append.2 ⟨h.nd,by simp,fun x hx y hy=> ?_⟩;rw[List.mem_singleton.1 hy];intro e;subst e;exact hnot hx
 ·rw[hmap];have:=h.bottom (by simp);rw[List.head?_append,this];rfl
 ·rcases List.mem_append.1 hp with h1|h1
  ·rcases List.mem_append.1 h1 with h2|h2
   ·exact up _ (h.sd p (List.mem_append_left _ h2) j hj)
   ·rw[List.mem_singleton.1 h2]at hj ⊢;by_cases e:j=k
    ·subst e;rw[lb_set hd0];rw[show(ends (c,j+1).1)[j]! =d from hdd,if_pos rfl]
    ·exact up _ (h.sd (c,k) (by simp) j (show j<k by simp at hj;omega))
  ·rw[List.mem_singleton.1 h1]at hj;exact absurd hj (Nat.not_lt_zero _)
theorem dfs_done (h:Bu ends nb seen out []) (hlt:∀c,c<nb→∀d∈ends c,d<nb):out.Nodup∧out.getLast? =some 0∧(∀c,c∈out↔uh ends c):=by
 have h0:=h.empty rfl;have hnd:=h.nd;simp at hnd;refine⟨hnd,h0,fun c=>⟨fun hc=>(h.olt c hc).2,fun hc=> ?_⟩⟩
 induction hc with
 |start=>exact List.mem_of_getLast? h0
 | @step a c ha hs ih=>
  have h1:=h.od a ih c hs;have:=(h.so c (hlt a (h.olt a ih).1 c hs)).1 h1
  simpa using this
theorem fuel_pop:De ends seen pre<De ends seen (pre++[(c,k)]):=by
 unfold De;simp
theorem fuel_old (hk:k<(ends c).length):De ends seen (pre++[(c,k+1)])<De ends seen (pre++[(c,k)]):=by
 unfold De;simp;omega
theorem fuel_new {d:Nat} (hk:k<(ends c).length) (hd:d<seen.length) (hs:seen[d]! =false) (h2:(ends d).length≤2):De ends (seen.set d true) (pre++[(c,k+1)]++[(d,0)])<De ends seen (pre++[(c,k)]):=by
 unfold De;have:=cntF_set seen d hd hs;simp;omega
end
section
variable (ends:Nat→List Nat) (T:Nat→Nat→Bool→Bool) (pr:Nat→List Nat) (there:Nat→Bool) (nb nc:Nat)
def meetB (I:List (List Bool)) (b i:Nat):Bool:=((pr b).filter there).all fun p=>T i p (I[p]![i]!)
def meetL (I:List (List Bool)) (b:Nat):List Bool:=(List.range nc).map (meetB T pr there I b)
structure GFlow (I:List (List Bool)):Prop where
 il:I.length=nb
 iw:∀b,b<nb→I[b]!.length=nc
 comp:∀b,uh ends b→∀i,i<nc→I[b]![i]! =false→Di ends (T i) b false
 down:∀b,uh ends b→b≠0→∀i,i<nc→meetB T pr there I b i=true→I[b]![i]! =true
 zero:∀i,i<nc→I[0]![i]! =false
structure GFrame:Prop where
 mono:∀i a,Mono (T i a)
 lt:∀c,c<nb→∀d∈ends c,d<nb
 prs:∀b,b<nb→∀p,p∈pr b↔p<nb∧b∈ends p
 ther:∀b,b<nb→(there b=true↔uh ends b)
 pos:0<nb
end
section
variable {ends:Nat→List Nat} {T:Nat→Nat→Bool→Bool} {pr:Nat→List Nat} {there:Nat→Bool} {nb nc:Nat} {I:List (List Bool)}
theorem rway_lt (h:GFrame ends T pr there nb) {b:Nat} (hr:uh ends b):b<nb:=by
 induction hr with
 |start=>exact h.pos
 |step _ hs ih=>exact h.lt _ ih _ hs
theorem meetL_len (I:List (List Bool)) (b:Nat):(meetL T pr there nc I b).length=nc:=by simp[meetL]
theorem meetL_at (I:List (List Bool)) (b:Nat) {i:Nat} (hi:i<nc):(meetL T pr there nc I b)[i]! =meetB T pr there I b i:=by
 rw[getElem!_pos _ i (by rw[meetL_len];exact hi)];simp[meetL]
theorem meetB_iff (h:GFrame ends T pr there nb) (I:List (List Bool)) {b:Nat} (hb:b<nb) (i:Nat):meetB T pr there I b i=true↔∀p,p<nb→b∈ends p→uh ends p→T i p (I[p]![i]!)=true:=by
 unfold meetB;rw[List.all_eq_true];constructor
 ·intro h1 p hp hs hr;exact h1 p (List.mem_filter.2 ⟨(h.prs b hb p).2 ⟨hp,hs⟩,(h.ther p hp).2 hr⟩)
 ·intro h1 p hp;obtain⟨h2,h3⟩:=List.mem_filter.1 hp;obtain⟨h4,h5⟩:=(h.prs b hb p).1 h2;exact h1 p h4 h5 ((h.ther p h4).1 h3)
theorem Dh {l:List (List Bool)} {i j:Nat} {b:List Bool} (hi:i<l.length):(l.set i b)[j]! =if j=i then b else l[j]! :=by
 by_cases hj:j<l.length
 ·rw[getElem!_pos _ j (by simpa using hj),getElem!_pos l j hj,List.getElem_set];by_cases e:i=j
  ·rw[if_pos e,if_pos e.symm]
  ·rw[if_neg e,if_neg (Ne.symm e)]
 ·rw[getElem!_neg _ j (by simpa using hj),getElem!_neg l j hj,if_neg (by omega)]
theorem Ck {α:Type} [Inhabited α] {n k:Nat} (x:α) (h:k<n):(List.replicate n x)[k]! =x:=by
 rw[getElem!_pos _ k (by simpa using h)];simp
theorem gflow_start (h:GFrame ends T pr there nb):GFlow ends T pr there nb nc ((List.replicate nb (List.replicate nc true)).set 0 (List.replicate nc false)):=by
 have h0:0<(List.replicate nb (List.replicate nc true)).length:=(by simpa using h.pos);refine⟨by simp,fun b hb=> ?_,fun b hr i hi hf=> ?_,fun b hr hb i hi _=> ?_,fun i hi=> ?_⟩
 ·rw[Dh h0];split
  ·simp
  ·rw[Ck _ hb];simp
 ·rw[Dh h0]at hf;by_cases e:b=0
  ·subst e;exact .start
  ·rw[if_neg e,Ck _ (rway_lt h hr),Ck _ hi]at hf;cases hf
 ·rw[Dh h0,if_neg hb,Ck _ (rway_lt h hr),Ck _ hi]
 ·rw[Dh h0,if_pos rfl,Ck _ hi]
theorem gflow_step (h:GFrame ends T pr there nb) (hI:GFlow ends T pr there nb nc I) {b:Nat} (hr:uh ends b) (hb:b≠0):GFlow ends T pr there nb nc (I.set b (meetL T pr there nc I b)):=by
 have hlt:=rway_lt h hr;have h0:b<I.length:=by rw[hI.il];exact hlt
 have less:∀c i,i<nc→(I.set b (meetL T pr there nc I b))[c]![i]! =true→I[c]![i]! =true:=fun c i hi hc=>by
  rw[Dh h0]at hc;by_cases e:c=b
  ·rw[if_pos e,meetL_at _ _ hi]at hc;rw[e];exact hI.down b hr hb i hi hc
  ·rwa [if_neg e]at hc
 refine⟨by simp[hI.il],fun c hc=> ?_,fun c hrc i hi hf=> ?_,fun c hrc hc i hi hm=> ?_,fun i hi=> ?_⟩
 ·rw[Dh h0];split
  ·exact meetL_len _ _
  ·exact hI.iw c hc
 ·rw[Dh h0]at hf;by_cases e:c=b
  ·rw[if_pos e,meetL_at _ _ hi]at hf;subst e
   have:¬∀p,p<nb→c∈ends p→uh ends p→T i p (I[p]![i]!)=true:=fun hall=>by
    rw[(meetB_iff h I hlt i).2 hall]at hf;cases hf
   apply Classical.byContradiction;intro hno;refine this fun p hp hs hrp=> ?_;cases ht:T i p (I[p]![i]!)with
   |true=>rfl
   |false=>
    exfalso
    apply hno;cases hJ:I[p]![i]! with
    |false=>
     rw[hJ]at ht;have:=Di.step (hI.comp p hrp i hi hJ) hs
     rwa [ht]at this
    |true=>
     rw[hJ]at ht
     have ht2:T i p false=false:=by
      cases hx:T i p false with
      |false=>rfl
      |true=>have:=h.mono i p hx;rw[ht]at this;cases this
     obtain⟨g,hg⟩:=reach_gway (t:=T i) hrp;have:=Di.step hg hs;cases g
     ·rwa [ht2]at this
     ·rwa [ht]at this
  ·rw[if_neg e]at hf;exact hI.comp c hrc i hi hf
 ·have hcl:=rway_lt h hrc
  have hm2:meetB T pr there I c i=true:=(meetB_iff h I hcl i).2 fun p hp hs hrp=>by
   have:=(meetB_iff h _ hcl i).1 hm p hp hs hrp;exact mono_le (h.mono i p) (less p i hi) this
  rw[Dh h0];by_cases e:c=b
  ·rw[if_pos e,meetL_at _ _ hi,←e];exact hm2
  ·rw[if_neg e];exact hI.down c hrc hc i hi hm2
 ·rw[Dh h0,if_neg (Ne.symm hb)];exact hI.zero i hi
def cntT (l:List Bool):Nat:=(l.filter id).length
def sumT (I:List (List Bool)):Nat:=(I.map cntT).sum
theorem cntT_lt {a b:List Bool} (hl:a.length=b.length) (h:∀i,i<a.length→a[i]! =true→b[i]! =true) (hne:a≠b):cntT a<cntT b:=by
 induction a generalizing b with
 |nil=>cases b with
  |nil=>exact absurd rfl hne
  |cons y b=>simp at hl
 |cons x a ih=>
  cases b with
  |nil=>simp at hl
  |cons y b=>
   have h1:=h 0 (by simp);have hl2:a.length=b.length:=(by simpa using hl);have h3:∀i,i<a.length→a[i]! =true→b[i]! =true:=fun i hi hx=>by simpa using h (i+1) (by simpa using hi) (by simpa using hx)
   by_cases e:a=b
   ·subst e;unfold cntT;cases x<;>cases y<;>simp at h1 hne ⊢
   ·have h2:=ih hl2 h3 e;unfold cntT at*;cases x<;>cases y<;>simp at h1 ⊢ <;>(try simp at h2)<;>omega
theorem sumT_set (I:List (List Bool)) (b:Nat) (hb:b<I.length) (s:List Bool) (h:cntT s<cntT I[b]!):sumT (I.set b s)<sumT I:=by
 unfold sumT
 induction I generalizing b with
 |nil=>exact absurd hb (Nat.not_lt_zero _)
 |cons x I ih=>
  cases b with
  |zero=>simp at h ⊢;omega
  |succ b=>
   have:=ih b (by simpa using hb) (by simpa using h);simp only[List.set_cons_succ,List.map_cons,List.sum_cons];omega
theorem gflow_less (h:GFrame ends T pr there nb) (hI:GFlow ends T pr there nb nc I) {b:Nat} (hr:uh ends b) (hb:b≠0) (hne:meetL T pr there nc I b≠I[b]!):sumT (I.set b (meetL T pr there nc I b))<sumT I:=by
 have hlt:=rway_lt h hr;refine sumT_set I b (by rw[hI.il];exact hlt) _ (cntT_lt ?_ ?_ hne)
 ·rw[meetL_len,hI.iw b hlt]
 ·intro i hi hm;rw[meetL_len]at hi;rw[meetL_at _ _ hi]at hm;exact hI.down b hr hb i hi hm
theorem gflow_done (h:GFrame ends T pr there nb) (hI:GFlow ends T pr there nb nc I) (hst:∀b,uh ends b→b≠0→meetL T pr there nc I b=I[b]!) {b i:Nat} (hi:i<nc) (hr:uh ends b) (s:Bool→Bool) (hs:Mono s):
  s (I[b]![i]!)=true↔∀g,Di ends (T i) b g→s g=true:=by
 refine stand_at (fun b=>I[b]![i]!) s hs hr (fun g hg=> ?_) (fun hf=>hI.comp b hr i hi hf);refine stand_sound (fun b=>I[b]![i]!) (h.mono i) (hI.zero i hi) (fun c hrc hc hJ a hra hs2=> ?_) hg;have h1:=hst c hrc hc
 have h2:meetB T pr there I c i=true:=by
  rw[←meetL_at (nc:=nc) I c hi,h1];exact hJ
 exact(meetB_iff h I (rway_lt h hrc) i).1 h2 a (rway_lt h hra) hs2 hra
end
end Go.Proofs.YtjllbchfojonhaaGreatDoor
