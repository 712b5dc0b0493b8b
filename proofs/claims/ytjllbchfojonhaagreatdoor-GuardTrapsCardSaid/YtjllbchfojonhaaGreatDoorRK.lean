/- The document's answer for arith; contracts. ; A run's state in memory; an end; contracts. ; A check of a run; contracts. ; One instruction of the document's interpreter: small words. -/
import Derived.Test.YtjllbchfojonhaaGreatDoorRM
import Derived.Test.YtjllbchfojonhaaGreatDoorTN
import Derived.Lib.Mul64
import Derived.Test.YtjllbchfojonhaaGreatDoorGK
import Derived.Test.YtjllbchfojonhaaGreatDoorB2
import Derived.Maps.AppendAt
import Derived.Test.YtjllbchfojonhaaGreatDoorB3
import Derived.Deep.RegionHeld3
set_option linter.unusedVariables false
set_option linter.unusedSimpArgs false
set_option maxRecDepth 100000
set_option maxHeartbeats 200000000
namespace Go.Proofs.YtjllbchfojonhaaGreatDoor
open Go.RowKit
theorem Az {n:Int}:inI n=true↔(-9223372036854775808≤n∧n≤9223372036854775807):=by simp[inI]
theorem ky (n:Int):wrap64 n=(n+9223372036854775808) % 18446744073709551616 -9223372036854775808:=by unfold wrap64;rfl
theorem u64_of_neg {a:Int} (ha:inI a=true) (h:a<0):IntKind.u64.wrap (-IntKind.u64.wrap a)=(a.natAbs:Int):=by
 rw[Az]at ha;rw[IntKind.wrap_u64,IntKind.wrap_u64];omega
theorem u64_of_pos {a:Int} (ha:inI a=true) (h:0≤a):IntKind.u64.wrap a=(a.natAbs:Int):=by
 rw[Az]at ha;rw[IntKind.wrap_u64];omega
theorem mul_same {a b:Int} (h:(a<0∧b<0)∨(0≤a∧0≤b)):((a.natAbs*b.natAbs:Nat):Int)=a*b:=by
 rw[Int.natCast_mul];rcases h with⟨h1,h2⟩|⟨h1,h2⟩
 ·rw[show(a.natAbs:Int)= -a by omega,show(b.natAbs:Int)= -b by omega,Int.neg_mul_neg]
 ·rw[show(a.natAbs:Int)=a by omega,show(b.natAbs:Int)=b by omega]
theorem mul_other {a b:Int} (h:(a<0∧0≤b)∨(0≤a∧b<0)):((a.natAbs*b.natAbs:Nat):Int)= -(a*b):=by
 rw[Int.natCast_mul];rcases h with⟨h1,h2⟩|⟨h1,h2⟩
 ·rw[show(a.natAbs:Int)= -a by omega,show(b.natAbs:Int)=b by omega,Int.neg_mul]
 ·rw[show(a.natAbs:Int)=a by omega,show(b.natAbs:Int)= -b by omega,Int.mul_neg]
theorem ret_twoi {k j:IntKind} {a b c d:Int} (h:a=b) (h':c=d):Ending.returned (.tuple #[.int k a,.int j c])= .returned (.tuple #[.int k b,.int j d]):=by rw[h,h']
theorem reffits0_eq (a b:Int) (ha:inI a=true) (hb:inI b=true):inI (a+b)=(!(decide (0<b)&&decide (wrap64 (9223372036854775807 -b)<a))&& !(decide (b<0)&&decide (a<wrap64 (-9223372036854775808 -b)))):=by
 rw[Az]at ha hb;rw[Bool.eq_iff_iff,Az,ky,ky];simp;omega
theorem reffits1_eq (a b:Int) (ha:inI a=true) (hb:inI b=true):inI (a -b)=(!(decide (b<0)&&decide (wrap64 (9223372036854775807+b)<a))&& !(decide (0<b)&&decide (a<wrap64 (-9223372036854775808+b)))):=by
 rw[Az]at ha hb;rw[Bool.eq_iff_iff,Az,ky,ky];simp;omega
theorem reffits_0 (a b:Int) (w:World) (ha:inI a=true) (hb:inI b=true):
  Calls Tryz.prog 112 #[.int .i64 0,.int .i64 a,.int .i64 b] w fun e w'=>e= .returned (.bool (inI (a+b)))∧w=w':=by
 have H:=ag (reffits0_eq a b ha hb);clear ha hb;rcases Bool.eq_false_or_eq_true (decide (0<b))with h1|h1<;>rcases Bool.eq_false_or_eq_true (decide (b<0))with h2|h2
 ·simp at h1 h2;omega
 ·rcases Bool.eq_false_or_eq_true (decide (wrap64 (9223372036854775807 -b)<a))with h3|h3
  all_goals
   go_enter Tryz.func112,Tryz.ntmps112;go_wp2;go_ret;exact⟨ay (by rw[H.o];simp[h1,h2,h3]),rfl⟩
 ·rcases Bool.eq_false_or_eq_true (decide (a<wrap64 (-9223372036854775808 -b)))with h3|h3
  all_goals
   go_enter Tryz.func112,Tryz.ntmps112;go_wp2;go_ret;exact⟨ay (by rw[H.o];simp[h1,h2,h3]),rfl⟩
 ·go_enter Tryz.func112,Tryz.ntmps112;go_wp2;go_ret;exact⟨ay (by rw[H.o];simp[h1,h2]),rfl⟩
theorem reffits_1 (a b:Int) (w:World) (ha:inI a=true) (hb:inI b=true):
  Calls Tryz.prog 112 #[.int .i64 1,.int .i64 a,.int .i64 b] w fun e w'=>e= .returned (.bool (inI (a -b)))∧w=w':=by
 have H:=ag (reffits1_eq a b ha hb);clear ha hb;rcases Bool.eq_false_or_eq_true (decide (0<b))with h1|h1<;>rcases Bool.eq_false_or_eq_true (decide (b<0))with h2|h2
 ·simp at h1 h2;omega
 ·rcases Bool.eq_false_or_eq_true (decide (a<wrap64 (-9223372036854775808+b)))with h3|h3
  all_goals
   go_enter Tryz.func112,Tryz.ntmps112;go_wp2;go_ret;exact⟨ay (by rw[H.o];simp[h1,h2,h3]),rfl⟩
 ·rcases Bool.eq_false_or_eq_true (decide (wrap64 (9223372036854775807+b)<a))with h3|h3
  all_goals
   go_enter Tryz.func112,Tryz.ntmps112;go_wp2;go_ret;exact⟨ay (by rw[H.o];simp[h1,h2,h3]),rfl⟩
 ·go_enter Tryz.func112,Tryz.ntmps112;go_wp2;go_ret;exact⟨ay (by rw[H.o];simp[h1,h2]),rfl⟩
theorem reffits2_zero (a b:Int) (h:a=0∨b=0):inI (a*b)=true:=by
 rw[Az];rcases h with rfl|rfl<;>simp
theorem div_fit {a b:Int} (L:Nat) (hb:1≤(b.natAbs:Int)):decide ((a.natAbs:Int)≤(L:Int) / (b.natAbs:Int))=decide (a.natAbs*b.natAbs≤L):=by
 have h:0<b.natAbs:=(by omega);rw[Bool.eq_iff_iff];simp only[decide_eq_true_eq];rw[←Nat.le_div_iff_mul_le h,←Int.natCast_ediv];omega
theorem mul_inI_same {a b:Int} (h:(a<0∧b<0)∨(0≤a∧0≤b)):inI (a*b)=decide (a.natAbs*b.natAbs≤9223372036854775807):=by
 have e:=mul_same h;rw[Bool.eq_iff_iff,Az];generalize a.natAbs*b.natAbs=n at*;simp;omega
theorem mul_inI_other {a b:Int} (h:(a<0∧0≤b)∨(0≤a∧b<0)):inI (a*b)=decide (a.natAbs*b.natAbs≤9223372036854775808):=by
 have e:=mul_other h;rw[Bool.eq_iff_iff,Az];generalize a.natAbs*b.natAbs=n at*;simp;omega
theorem reffits_2 (a b:Int) (w:World) (ha:inI a=true) (hb:inI b=true):
  Calls Tryz.prog 112 #[.int .i64 2,.int .i64 a,.int .i64 b] w fun e w'=>e= .returned (.bool (inI (a*b)))∧w=w':=by
 rcases Bool.eq_false_or_eq_true (a==0)with h1|h1
 ·have ha0:a=0:=(by simpa using h1);have H:=ag (reffits2_zero a b (.inl ha0));clear ha hb ha0;go_enter Tryz.func112,Tryz.ntmps112;go_wp2;go_ret;exact⟨ay (by rw[H.o]),rfl⟩
 rcases Bool.eq_false_or_eq_true (b==0)with h2|h2
 ·have hb0:b=0:=(by simpa using h2);have H:=ag (reffits2_zero a b (.inr hb0));clear ha hb hb0;go_enter Tryz.func112,Tryz.ntmps112;go_wp2;go_ret;exact⟨ay (by rw[H.o]),rfl⟩
 have hb1:1≤(b.natAbs:Int):=by
  have:b≠0:=(by simpa using h2);omega
 have hb2:((b.natAbs:Int)==0)=false:=(by simp;simpa using h2);rcases Bool.eq_false_or_eq_true (decide (a<0))with h3|h3<;>rcases Bool.eq_false_or_eq_true (decide (b<0))with h4|h4
 ·have ea:=u64_of_neg ha (by simpa using h3);have eb:=u64_of_neg hb (by simpa using h4);clear ha hb;go_enter Tryz.func112,Tryz.ntmps112;go_wp2;go_ret;simp at h3 h4;exact⟨ay ((div_fit 9223372036854775807 hb1).trans (mul_inI_same (by omega)).symm),rfl⟩
 ·have ea:=u64_of_neg ha (by simpa using h3);have eb:=u64_of_pos hb (by simpa using h4);clear ha hb;go_enter Tryz.func112,Tryz.ntmps112;go_wp2;go_ret;simp at h3 h4;exact⟨ay ((div_fit 9223372036854775808 hb1).trans (mul_inI_other (by omega)).symm),rfl⟩
 ·have ea:=u64_of_pos ha (by simpa using h3);have eb:=u64_of_neg hb (by simpa using h4);clear ha hb;go_enter Tryz.func112,Tryz.ntmps112;go_wp2;go_ret;simp at h3 h4;exact⟨ay ((div_fit 9223372036854775808 hb1).trans (mul_inI_other (by omega)).symm),rfl⟩
 ·have ea:=u64_of_pos ha (by simpa using h3);have eb:=u64_of_pos hb (by simpa using h4);clear ha hb;go_enter Tryz.func112,Tryz.ntmps112;go_wp2;go_ret;simp at h3 h4;exact⟨ay ((div_fit 9223372036854775807 hb1).trans (mul_inI_same (by omega)).symm),rfl⟩
theorem wrap64_u64 (n:Int):wrap64 (IntKind.u64.wrap n)=wrap64 n:=by
 rw[IntKind.wrap_u64,ky,ky];omega
theorem wrap64_mul (a b:Int):wrap64 (IntKind.u64.wrap (IntKind.u64.wrap a*IntKind.u64.wrap b))=wrap64 (a*b):=by
 rw[wrap64_u64,IntKind.wrap_u64,IntKind.wrap_u64,ky,ky];have h:=Int.mul_emod a b 18446744073709551616;have h2:=Int.mul_emod (a % 18446744073709551616) (b % 18446744073709551616) 18446744073709551616;simp only[Int.emod_emod_of_dvd,Int.dvd_refl]at h2;omega
theorem refwrap_0 (a b:Int) (w:World):Calls Tryz.prog 80 #[.int .i64 0,.int .i64 a,.int .i64 b] w fun e w'=>e= .returned (.int .i64 (wrap64 (a+b)))∧w=w':=by
 go_enter Tryz.func80,Tryz.ntmps80;go_wp2;go_ret;exact⟨zw (by rw[wrap64_u64,IntKind.wrap_u64,IntKind.wrap_u64,ky,ky];omega),rfl⟩
theorem refwrap_1 (a b:Int) (w:World):Calls Tryz.prog 80 #[.int .i64 1,.int .i64 a,.int .i64 b] w fun e w'=>e= .returned (.int .i64 (wrap64 (a -b)))∧w=w':=by
 go_enter Tryz.func80,Tryz.ntmps80;go_wp2;go_ret;exact⟨zw (by rw[wrap64_u64,IntKind.wrap_u64,IntKind.wrap_u64,ky,ky];omega),rfl⟩
theorem refwrap_2 (a b:Int) (w:World):Calls Tryz.prog 80 #[.int .i64 2,.int .i64 a,.int .i64 b] w fun e w'=>e= .returned (.int .i64 (wrap64 (a*b)))∧w=w':=by
 go_enter Tryz.func80,Tryz.ntmps80;go_wp2;go_ret;exact⟨zw (wrap64_mul a b),rfl⟩
theorem tmod_eq (a b:Int) (ha:inI a=true):wrap64 (a -wrap64 (wrap64 (a.tdiv b)*b))=a.tmod b:=by
 rw[Az]at ha;have h:=Int.mul_tdiv_add_tmod a b
 have hr: -9223372036854775808≤a.tmod b∧a.tmod b≤9223372036854775807:=by
  rcases Int.le_total 0 a with h0|h0
  ·have h1:=Int.tmod_nonneg b h0;have h2:(a.tmod b).natAbs≤a.natAbs:=(by rw[Int.natAbs_tmod];exact Nat.mod_le _ _);omega
  ·have e:a.tmod b= -((-a).tmod b):=(by rw[Int.neg_tmod];omega);have h1:=Int.tmod_nonneg b (show 0≤ -a by omega);have h2:(a.tmod b).natAbs≤a.natAbs:=(by rw[Int.natAbs_tmod];exact Nat.mod_le _ _);omega
 have e1:wrap64 (wrap64 (a.tdiv b)*b)=wrap64 (a.tdiv b*b):=by
  rw[ky (a.tdiv b),ky,ky];have:=Int.mul_emod ((a.tdiv b+9223372036854775808) % 18446744073709551616 -9223372036854775808) b 18446744073709551616;have k:=Int.mul_emod (a.tdiv b) b 18446744073709551616;have e:((a.tdiv b+9223372036854775808) % 18446744073709551616 -9223372036854775808) % 18446744073709551616=a.tdiv b % 18446744073709551616:=(by omega);rw[e,←k]at this;omega
 rw[Int.mul_comm]at h;rw[e1,ky,ky];omega
theorem refdiv_any (a b:Int) (w:World) (ha:inI a=true) (hb:¬b=0):
  Calls Tryz.prog 81 #[.int .i64 a,.int .i64 b] w fun e w'=>e= .returned (.tuple #[.int .i64 (wrap64 (a.tdiv b)),.int .i64 (a.tmod b)])∧∃n,w'=w.drewN n:=by
 have hb':(b==0)=false:=(by simpa using hb);by_cases h1:b= -1
 ·subst h1;go_enter Tryz.func81,Tryz.ntmps81;go_wp2;go_ret2
  exact⟨ret_twoi (by rw[wrap64_u64,IntKind.wrap_u64,ky,ky,Int.tdiv_neg,Int.tdiv_one];omega) (by simp),0,rfl⟩
 ·have h1':(b== -1)=false:=(by simpa using h1);have H:=ag (tmod_eq a b ha);clear ha;go_enter Tryz.func81,Tryz.ntmps81;go_wp2;go_quiet (fail)
  go_wp2;go_ret2
  exact⟨ret_twoi rfl H.o,_,rfl⟩
theorem mr (n:Int):wrapI n=wrap64 n:=by rw[ky];rfl
theorem refdiv_keep (a b:Int) (w:World) (ha:inI a=true) (hb:¬b=0):Calls Tryz.prog 81 #[.int .i64 a,.int .i64 b] w fun e w'=>e= .returned (.tuple #[.int .i64 (wrap64 (a.tdiv b)),.int .i64 (a.tmod b)])∧ai w w' []:=
 (refdiv_any a b w ha hb).mono fun e w' ⟨h1,n,h2⟩=>⟨h1,by rw[h2];exact(ai.refl w []).drewN n⟩
end Go.Proofs.YtjllbchfojonhaaGreatDoor
namespace Go.Proofs.YtjllbchfojonhaaGreatDoor
open Go.RowKit Go.Shelf Go.Lib
structure vk where
  gi:Nat
  gb:Nat
  ga:Nat
  va:Value
  vt:Value
  ar:List jl
def Aq (l:List Int):Array Value:=(l.map (Value.int .i64)).toArray
theorem i64_at {l:List Int} {k:Nat} (hk:k<l.length):(Aq l)[k]? =some (.int .i64 l[k]!):=by
  unfold Aq;rw[List.getElem?_toArray,List.getElem?_map,List.getElem?_eq_getElem hk,getElem!_pos l k hk];rfl
theorem i64_set (l:List Int) (k:Nat) (x:Int):(Aq l).setIfInBounds k (.int .i64 x)=Aq (l.set k x):=by
  unfold Aq;rw[List.setIfInBounds_toArray,List.map_set]
theorem zb {a b c:World} {g:Nat} (h:ai a b []) (k:ai b c [g]) (hg:a.heap.size≤g):ai a c []:=
  (h.trans k).mono fun x hx=>by simp at hx;subst hx;exact .inr hg
def kv (R:vk) (f:ax) (n:Nat) (s:StM):Array Value:=
  #[f.vars.1, f.params.1, f.blocks.1, .slice (some ⟨R.gi, 0, none⟩) n n, .slice (some ⟨R.gb, 0, none⟩) n n, .slice (some ⟨R.ga, 0, none⟩) n n, R.va, .int .i64 (s.block : Nat), .int .i64 (s.pc : Nat),
    .int .i64 s.out.ending,.int .i64 s.out.value,.int .i64 s.out.trap,R.vt,.int .i64 (s.out.steps:Nat),
    .int .i64 (s.out.checks[0]! :Nat),.int .i64 (s.out.checks[1]! :Nat),.int .i64 (s.out.checks[2]! :Nat),.int .i64 (s.out.checks[3]! :Nat),.int .i64 (s.out.checks[4]! :Nat),.int .i64 (s.out.checks[5]! :Nat),.int .i64 (s.out.checks[6]! :Nat),.int .i64 (s.out.checks[7]! :Nat),.bool s.ended]
structure WAt (wB W:World) (g:Nat) (R:vk) (f:ax) (n:Nat) (s:StM):Prop where
  k:ai wB W []
  base:wB.heap.size≤g
  blk:Blk W g 75 (kv R f n s)
  bi:wB.heap.size≤R.gi∧Blk W R.gi 2 (Aq s.ints)∧s.ints.length=n
  bb:wB.heap.size≤R.gb∧Blk W R.gb 4 (oz s.bools)∧s.bools.length=n
  ba:wB.heap.size≤R.ga∧Blk W R.ga 3 (Aq s.arrs)∧s.arrs.length=n
  rows:W.ownsRow wB.heap.size 64 1 R.va R.ar.length (R.ar.map Prod.fst)
  row:∀i,i<R.ar.length→W.ownsRow wB.heap.size 2 1 (R.ar[i]! :jl).1 (R.ar[i]! :jl).2.length ((R.ar[i]! :jl).2.map (Value.int .i64))
  arr:R.ar.map Prod.snd=s.arrays
  trace:W.ownsRow wB.heap.size 2 1 R.vt s.out.trace.length (s.out.trace.map (Value.int .i64))
  apT:∀i,i<R.ar.length→∀b,(R.ar[i]! :jl).1.ownBlock=some b→R.vt.ownBlock≠some b
  apI:∀i,i<R.ar.length→(R.ar[i]! :jl).1.ownBlock≠some R.gi
  apTI:R.vt.ownBlock≠some R.gi
  apR:∀i j,i<R.ar.length→j<R.ar.length→i≠j→∀b,(R.ar[i]! :jl).1.ownBlock=some b→(R.ar[j]! :jl).1.ownBlock≠some b
  ck:s.out.checks.length=8
theorem jy {W:World} {g h:Nat} {t u:TypeId} {cs ds:Array Value} (a:Blk W g t cs) (b:Blk W h u ds) (ht:t≠u):g≠h:=fun e=>by
  subst e;unfold Blk at a b;rw[a]at b;simp only[Option.some.injEq,Obj.cells.injEq]at b;exact ht b.2.1
theorem WAt.keep {wB W W':World} {g:Nat} {R:vk} {f:ax} {n:Nat} {s:StM} (h:WAt wB W g R f n s) (k:ai W W' []):WAt wB W' g R f n s:=
  ⟨h.k.ak k, h.base, h.blk.keep k (by simp), ⟨h.bi.1, h.bi.2.1.keep k (by simp), h.bi.2.2⟩, ⟨h.bb.1, h.bb.2.1.keep k (by simp), h.bb.2.2⟩, ⟨h.ba.1, h.ba.2.1.keep k (by simp), h.ba.2.2⟩,
   au h.rows k (by simp),fun i hi=>au (h.row i hi) k (by simp),h.arr,au h.trace k (by simp),h.apT,h.apI,h.apTI,h.apR,h.ck⟩
theorem WAt.turn {wB W W':World} {g:Nat} {R:vk} {f:ax} {n:Nat} {s s':StM} (h:WAt wB W g R f n s) (k:ai W W' [g]) (hb:Blk W' g 75 (kv R f n s'))
    (hi:s'.ints=s.ints) (hbo:s'.bools=s.bools) (ha:s'.arrs=s.arrs) (har:s'.arrays=s.arrays) (ht:s'.out.trace=s.out.trace) (hck:s'.out.checks.length=8):WAt wB W' g R f n s':=
  ⟨zb h.k k h.base, h.base, hb, ⟨h.bi.1, by rw [hi]; exact h.bi.2.1.keep k (by simp; exact jy h.bi.2.1 h.blk (by decide)), by rw [hi]; exact h.bi.2.2⟩,
   ⟨h.bb.1,by rw[hbo];exact h.bb.2.1.keep k (by simp;exact jy h.bb.2.1 h.blk (by decide)),by rw[hbo];exact h.bb.2.2⟩,
   ⟨h.ba.1,by rw[ha];exact h.ba.2.1.keep k (by simp;exact jy h.ba.2.1 h.blk (by decide)),by rw[ha];exact h.ba.2.2⟩,
   au h.rows k (fun b hb e=>own_ne h.rows h.blk (by decide) (by rw[hb,List.mem_singleton.1 e])),fun i hi=>au (h.row i hi) k (fun b hb e=>own_ne (h.row i hi) h.blk (by decide) (by rw[hb,List.mem_singleton.1 e])),
   by rw[har];exact h.arr,by rw[ht];exact au h.trace k (fun b hb e=>own_ne h.trace h.blk (by decide) (by rw[hb,List.mem_singleton.1 e])),h.apT,h.apI,h.apTI,h.apR,hck⟩
theorem WAt.jg {wB W:World} {g:Nat} {R:vk} {f:ax} {n:Nat} {s:StM} (h:WAt wB W g R f n s) (d:Nat) (x:Int):WAt wB (W.setCell ⟨R.gi,d,none⟩ (.int .i64 x)) g R f n (s.jg d x):=by
  have k:ai W (W.setCell ⟨R.gi,d,none⟩ (.int .i64 x)) [R.gi]:=(ai.refl W [R.gi]).setCell (.inl (by simp)) _;have hb:=h.bi.2.1.gu d (.int .i64 x);rw[i64_set]at hb
  exact ⟨zb h.k k h.bi.1, h.base, h.blk.keep k (by simp; exact jy h.blk h.bi.2.1 (by decide)), ⟨h.bi.1, by unfold StM.jg; rw [Int.toNat_natCast]; exact hb, by unfold StM.jg; rw [List.length_set]; exact h.bi.2.2⟩,
   ⟨h.bb.1,h.bb.2.1.keep k (by simp;exact jy h.bb.2.1 h.bi.2.1 (by decide)),h.bb.2.2⟩,⟨h.ba.1,h.ba.2.1.keep k (by simp;exact jy h.ba.2.1 h.bi.2.1 (by decide)),h.ba.2.2⟩,
   au h.rows k (fun b hb e=>own_ne h.rows h.bi.2.1 (by decide) (by rw[hb,List.mem_singleton.1 e])),fun i hi=>au (h.row i hi) k (fun b hb e=>h.apI i hi (by rw[hb,List.mem_singleton.1 e])),
   h.arr,au h.trace k (fun b hb e=>h.apTI (by rw[hb,List.mem_singleton.1 e])),h.apT,h.apI,h.apTI,h.apR,h.ck⟩
theorem WAt.lq {wB W:World} {g:Nat} {R:vk} {f:ax} {n:Nat} {s:StM} (h:WAt wB W g R f n s) (d:Nat) (x:Bool):WAt wB (W.setCell ⟨R.gb,d,none⟩ (.bool x)) g R f n (s.lq d x):=by
  have k:ai W (W.setCell ⟨R.gb,d,none⟩ (.bool x)) [R.gb]:=(ai.refl W [R.gb]).setCell (.inl (by simp)) _;have hb:=h.bb.2.1.gu d (.bool x);rw[bitsR_set]at hb
  exact ⟨zb h.k k h.bb.1, h.base, h.blk.keep k (by simp; exact jy h.blk h.bb.2.1 (by decide)), ⟨h.bi.1, h.bi.2.1.keep k (by simp; exact jy h.bi.2.1 h.bb.2.1 (by decide)), h.bi.2.2⟩,
   ⟨h.bb.1,by unfold StM.lq;rw[Int.toNat_natCast];exact hb,by unfold StM.lq;rw[List.length_set];exact h.bb.2.2⟩,⟨h.ba.1,h.ba.2.1.keep k (by simp;exact jy h.ba.2.1 h.bb.2.1 (by decide)),h.ba.2.2⟩,
   au h.rows k (fun b hb e=>own_ne h.rows h.bb.2.1 (by decide) (by rw[hb,List.mem_singleton.1 e])),fun i hi=>au (h.row i hi) k (fun b hb e=>own_ne (h.row i hi) h.bb.2.1 (by decide) (by rw[hb,List.mem_singleton.1 e])),
   h.arr,au h.trace k (fun b hb e=>own_ne h.trace h.bb.2.1 (by decide) (by rw[hb,List.mem_singleton.1 e])),h.apT,h.apI,h.apTI,h.apR,h.ck⟩
theorem WAt.mg {wB W:World} {g:Nat} {R:vk} {f:ax} {n:Nat} {s:StM} (h:WAt wB W g R f n s) (d:Nat) (x:Int):WAt wB (W.setCell ⟨R.ga,d,none⟩ (.int .i64 x)) g R f n (s.mg d x):=by
  have k:ai W (W.setCell ⟨R.ga,d,none⟩ (.int .i64 x)) [R.ga]:=(ai.refl W [R.ga]).setCell (.inl (by simp)) _;have hb:=h.ba.2.1.gu d (.int .i64 x);rw[i64_set]at hb
  exact ⟨zb h.k k h.ba.1, h.base, h.blk.keep k (by simp; exact jy h.blk h.ba.2.1 (by decide)), ⟨h.bi.1, h.bi.2.1.keep k (by simp; exact jy h.bi.2.1 h.ba.2.1 (by decide)), h.bi.2.2⟩,
   ⟨h.bb.1,h.bb.2.1.keep k (by simp;exact jy h.bb.2.1 h.ba.2.1 (by decide)),h.bb.2.2⟩,⟨h.ba.1,by unfold StM.mg;rw[Int.toNat_natCast];exact hb,by unfold StM.mg;rw[List.length_set];exact h.ba.2.2⟩,
   au h.rows k (fun b hb e=>own_ne h.rows h.ba.2.1 (by decide) (by rw[hb,List.mem_singleton.1 e])),fun i hi=>au (h.row i hi) k (fun b hb e=>own_ne (h.row i hi) h.ba.2.1 (by decide) (by rw[hb,List.mem_singleton.1 e])),
   h.arr,au h.trace k (fun b hb e=>own_ne h.trace h.ba.2.1 (by decide) (by rw[hb,List.mem_singleton.1 e])),h.apT,h.apI,h.apTI,h.apR,h.ck⟩
section
variable {wB W:World} {g:Nat} {R:vk} {f:ax} {n:Nat} {s:StM}
theorem WAt.dw (h:WAt wB W g R f n s) {v:Nat} (hv:v<n):W.cell? ⟨R.gi,v,none⟩=some (.int .i64 (s.I v)):=by
  rw[h.bi.2.1.cell,i64_at (by rw[h.bi.2.2];exact hv)];rfl
theorem WAt.dz (h:WAt wB W g R f n s) {v:Nat} (hv:v<n):W.cell? ⟨R.gb,v,none⟩=some (.bool (s.B v)):=by
  rw[h.bb.2.1.cell,bitsR_at (by rw[h.bb.2.2];exact hv)];rfl
theorem WAt.kr (h:WAt wB W g R f n s) {v:Nat} (hv:v<n):W.cell? ⟨R.ga,v,none⟩=some (.int .i64 (s.A v)):=by
  rw[h.ba.2.1.cell,i64_at (by rw[h.ba.2.2];exact hv)];rfl
theorem WAt.alen (h:WAt wB W g R f n s):R.ar.length=s.arrays.length:=by rw[←h.arr,List.length_map]
theorem WAt.aat (h:WAt wB W g R f n s) {a:Nat} (ha:a<s.arrays.length):(R.ar[a]! :jl).2=s.arrays[a]! :=by
  have h2:=congrArg (fun l:List (List Int)=>l[a]?) h.arr;simp only[List.getElem?_map]at h2;have hl:=h.alen;rw[List.getElem?_eq_getElem (by omega),List.getElem?_eq_getElem ha]at h2;simp only[Option.map_some,Option.some.injEq]at h2;rw[getElem!_pos R.ar a (by omega),getElem!_pos s.arrays a ha];exact h2
end
theorem own_set {w:World} {base n b:Nat} {e:TypeId} {v:Value} {xs:List Value} (h:w.ownsRow base e 1 v n xs) (hb:v.ownBlock=some b) (i:Nat) (x:Value):(w.setCell ⟨b,i,none⟩ x).ownsRow base e 1 v n (xs.set i x):=by
  refine⟨by rw[List.length_set];exact h.1, ?_⟩;rcases h.2 with⟨rfl,_⟩|⟨g,cap,cur,rfl,h2,h3,h4,h5,h6,h7⟩
  · cases hb
  · simp[Value.ownBlock]at hb
    subst hb;refine .inr ⟨g,cap,cur.setIfInBounds i x,rfl,h2,(Blk.gu (t:=e) h3 i x),h4,h5,by rw[Array.size_setIfInBounds];exact h6, ?_⟩;rw[Array.toList_setIfInBounds,List.take_set,h7]
theorem ar_set {l:List jl} {a i:Nat} {q:jl} (hi:i<l.length):(l.set a q)[i]! =if i=a then q else l[i]! :=by
  rw[getElem!_pos _ i (by simpa using hi),getElem!_pos l i hi,List.getElem_set];by_cases e:a=i
  · rw[if_pos e,if_pos e.symm]
  · rw[if_neg e,if_neg (fun h=>e h.symm)]
theorem ar_app {l:List jl} {i:Nat} {q:jl} (hi:i<(l++[q]).length):(l++[q])[i]! =if i=l.length then q else l[i]! :=by
  rw[List.length_append,List.length_singleton]at hi;rw[getElem!_pos (l++[q]) i (by simpa using hi),List.getElem_append];by_cases e:i=l.length
  · rw[dif_neg (by omega),if_pos e];simp
  · rw[dif_pos (by omega),if_neg e,getElem!_pos l i (by omega)]
theorem WAt.store {wB W:World} {g:Nat} {R:vk} {f:ax} {n:Nat} {s:StM} (h:WAt wB W g R f n s) {a b:Nat} (ha:a<s.arrays.length) (hb:(R.ar[a]! :jl).1.ownBlock=some b) (i:Nat) (x:Int):
    WAt wB (W.setCell ⟨b,i,none⟩ (.int .i64 x)) g {R with ar:=R.ar.set a ((R.ar[a]! :jl).1,s.arrays[a]!.set i x)} f n {s with arrays:=s.arrays.set a (s.arrays[a]!.set i x)}:=by
  have hl:=h.alen;have haR:a<R.ar.length:=(by omega);have k:ai W (W.setCell ⟨b,i,none⟩ (.int .i64 x)) [b]:=(ai.refl W [b]).setCell (.inl (by simp)) _;have hr:=h.row a haR;have hbb:=(ig hr hb).2;have hs:∀j,j<(R.ar.set a ((R.ar[a]! :jl).1,s.arrays[a]!.set i x)).length→j<R.ar.length:=fun j hj=>by rw[List.length_set]at hj;exact hj
  have h1:∀j,j<R.ar.length→((R.ar.set a ((R.ar[a]! :jl).1,s.arrays[a]!.set i x))[j]! :jl).1=(R.ar[j]! :jl).1:=fun j hj=>by
    rw[ar_set hj];split
    · subst_vars;rfl
    · rfl
  refine ⟨zb h.k k hbb, h.base, h.blk.keep k (by simp; exact fun e => own_ne hr h.blk (by decide) (by rw [hb, e])),
    ⟨h.bi.1,h.bi.2.1.keep k (by simp;exact fun e=>h.apI a haR (by rw[hb,e])),h.bi.2.2⟩,
    ⟨h.bb.1,h.bb.2.1.keep k (by simp;exact fun e=>own_ne hr h.bb.2.1 (by decide) (by rw[hb,e])),h.bb.2.2⟩,
    ⟨h.ba.1,h.ba.2.1.keep k (by simp;exact fun e=>own_ne hr h.ba.2.1 (by decide) (by rw[hb,e])),h.ba.2.2⟩, ?_,fun j hj=> ?_, ?_,
    au h.trace k (fun c hc e=>h.apT a haR b hb (by rw[hc,List.mem_singleton.1 e])),fun j hj=> ?_,fun j hj=> ?_,h.apTI,fun p q hp hq=> ?_,h.ck⟩
  · have e:(R.ar.set a ((R.ar[a]! :jl).1,s.arrays[a]!.set i x)).map Prod.fst=R.ar.map Prod.fst:=by
      apply List.ext_getElem (by simp);intro j hj1 hj2;simp only[List.getElem_map];have:=h1 j (by simpa using hj2);rw[getElem!_pos _ j (by simpa using hj1),getElem!_pos _ j (by simpa using hj2)]at this;exact this
    show World.ownsRow _ _ 64 1 R.va (List.set _ _ _).length _;rw[List.length_set,e];exact au h.rows k (fun c hc e=>xx hr h.rows (by decide) hb (by rw[hc,List.mem_singleton.1 e]))
  · have hj2:=hs j hj
    show World.ownsRow _ _ 2 1 ((R.ar.set a _)[j]! :jl).1 ((R.ar.set a _)[j]! :jl).2.length _;rw[ar_set hj2];by_cases e:j=a
    · subst e
      rw[if_pos rfl];have h2:=own_set hr hb i (.int .i64 x);have h3:=h.aat ha;rw[h3]at h2;show World.ownsRow _ _ 2 1 (R.ar[j]! :jl).1 (s.arrays[j]!.set i x).length ((s.arrays[j]!.set i x).map _);rw[List.length_set,List.map_set];exact h2
    · rw[if_neg e]
      exact au (h.row j hj2) k (fun c hc e2=>h.apR a j haR hj2 (fun e3=>e e3.symm) b hb (by rw[hc,List.mem_singleton.1 e2]))
  · show(R.ar.set a _).map Prod.snd=s.arrays.set a _
    rw[List.map_set,h.arr]
  · have hj2:=hs j hj
    show ∀b,((R.ar.set a _)[j]! :jl).1.ownBlock=some b→_;rw[h1 j hj2];exact h.apT j hj2
  · have hj2:=hs j hj
    show((R.ar.set a _)[j]! :jl).1.ownBlock≠_;rw[h1 j hj2];exact h.apI j hj2
  · have hp2:=hs p hp
    have hq2:=hs q hq;show p≠q→∀b,((R.ar.set a _)[p]! :jl).1.ownBlock=some b→((R.ar.set a _)[q]! :jl).1.ownBlock≠some b;rw[h1 p hp2,h1 q hq2];exact h.apR p q hp2 hq2
theorem WAt.more {wB W W1 W2:World} {g:Nat} {R:vk} {f:ax} {n:Nat} {s:StM} (h:WAt wB W g R f n s) (k1:ai W W1 []) {vn va':Value} {l:List Int} (hv:W1.ownsRow wB.heap.size 2 1 vn l.length (l.map (Value.int .i64)))
    (hf:∀b,vn.ownBlock=some b→W.heap.size≤b) (hg:W1.grownBy W2 R.va.ownBlock) (hown:W2.ownsRow wB.heap.size 64 1 va' (R.ar.length+1) (R.ar.map Prod.fst++[vn])):
    WAt wB (W2.setCell ⟨g,6,none⟩ va') g {R with va:=va',ar:=R.ar++[(vn,l)]} f n {s with arrays:=s.arrays++[l]}:=by
  have h1:=h.keep k1
  -- what the growing leaves
  have hk2:ai wB W2 []:=h1.k.grown hg (fun c hc=> .inr (ig h1.rows hc).2);have hb2:∀{t:TypeId} {c:Nat} {cs:Array Value},Blk W1 c t cs→t≠64→Blk W2 c t cs:=fun{t c cs} hB ht=>(hg.block c hB.lt (fun e=>own_ne h1.rows hB (fun e=>ht e.symm) e.symm)).trans hB
  have ho2:∀{t:TypeId} {m:Nat} {v:Value} {xs:List Value},W1.ownsRow wB.heap.size t 1 v m xs→t≠64→W2.ownsRow wB.heap.size t 1 v m xs:=fun{t m v xs} hO ht=>by
    refine⟨hO.1, ?_⟩;rcases hO.2 with h2|⟨c,cap,cur,hv,hc,hh,r⟩
    · exact .inl h2
    · exact .inr ⟨c,cap,cur,hv,hc,hb2 hh ht,r⟩
  have B2:=hb2 h1.blk (by decide);have k3:ai W2 (W2.setCell ⟨g,6,none⟩ va') [g]:=(ai.refl W2 [g]).setCell (.inl (by simp)) _;have hB3:=B2.gu 6 va';have o3:∀{t:TypeId} {m:Nat} {v:Value} {xs:List Value},W2.ownsRow wB.heap.size t 1 v m xs→t≠75→(W2.setCell ⟨g,6,none⟩ va').ownsRow wB.heap.size t 1 v m xs:=fun hO ht=>au hO k3 (fun c hc e=>own_ne hO B2 ht (by rw[hc,List.mem_singleton.1 e]));have b3:∀{t:TypeId} {c:Nat} {cs:Array Value},Blk W2 c t cs→t≠75→Blk (W2.setCell ⟨g,6,none⟩ va') c t cs:=fun hB ht=>hB.keep k3 (by simp;exact jy hB B2 ht);have old:∀{m c:Nat} {v:Value} {xs:List Value} {t:TypeId},W.ownsRow wB.heap.size t 1 v m xs→v.ownBlock=some c→c<W.heap.size:=fun hO hc=>(ig hO hc).1;have hlen:(R.ar++[(vn,l)]).length=R.ar.length+1:=by rw[List.length_append];rfl
  refine ⟨zb hk2 k3 h.base, h.base, ?_, ⟨h.bi.1, b3 (hb2 h1.bi.2.1 (by decide)) (by decide), h.bi.2.2⟩, ⟨h.bb.1, b3 (hb2 h1.bb.2.1 (by decide)) (by decide), h.bb.2.2⟩, ⟨h.ba.1, b3 (hb2 h1.ba.2.1 (by decide)) (by decide), h.ba.2.2⟩,
    ?_,fun i hi=> ?_, ?_,o3 (ho2 h1.trace (by decide)) (by decide),fun i hi=> ?_,fun i hi=> ?_,h.apTI,fun i j hi hj=> ?_,h.ck⟩
  · exact hB3
  · show World.ownsRow _ _ 64 1 va' (R.ar++[(vn,l)]).length ((R.ar++[(vn,l)]).map Prod.fst)
    rw[hlen,List.map_append];exact o3 hown (by decide)
  · show World.ownsRow _ _ 2 1 ((R.ar++[(vn,l)])[i]! :jl).1 _ _
    rw[ar_app hi];by_cases e:i=R.ar.length
    · rw[if_pos e];exact o3 (ho2 hv (by decide)) (by decide)
    · rw[if_neg e];exact o3 (ho2 (h1.row i (by rw[hlen]at hi;omega)) (by decide)) (by decide)
  · show(R.ar++[(vn,l)]).map Prod.snd=s.arrays++[l]
    rw[List.map_append,h.arr];rfl
  · show ∀b,((R.ar++[(vn,l)])[i]! :jl).1.ownBlock=some b→R.vt.ownBlock≠some b
    rw[ar_app hi];by_cases e:i=R.ar.length
    · rw[if_pos e];intro b hb hb2;have:=hf b hb;have:=old h.trace hb2;omega
    · rw[if_neg e];exact h.apT i (by rw[hlen]at hi;omega)
  · show((R.ar++[(vn,l)])[i]! :jl).1.ownBlock≠some R.gi
    rw[ar_app hi];by_cases e:i=R.ar.length
    · rw[if_pos e];intro hb;have:=hf _ hb;have:=h.bi.2.1.lt;omega
    · rw[if_neg e];exact h.apI i (by rw[hlen]at hi;omega)
  · show i≠j→∀b,((R.ar++[(vn,l)])[i]! :jl).1.ownBlock=some b→((R.ar++[(vn,l)])[j]! :jl).1.ownBlock≠some b
    rw[ar_app hi,ar_app hj];rw[hlen]at hi hj;intro hij b hb hb2;by_cases e:i=R.ar.length
    · rw[if_pos e]at hb
      rw[if_neg (by omega)]at hb2;have:=hf b hb;have:=old (h.row j (by omega)) hb2;omega
    · rw[if_neg e]at hb
      by_cases e2:j=R.ar.length
      · rw[if_pos e2]at hb2
        have:=hf b hb2;have:=old (h.row i (by omega)) hb;omega
      · rw[if_neg e2]at hb2
        exact h.apR i j (by omega) (by omega) hij b hb hb2
theorem WAt.wrote {wB W W1 W2:World} {g:Nat} {R:vk} {f:ax} {n:Nat} {s:StM} (h:WAt wB W g R f n s) (k1:ai W W1 []) {vt':Value} {x:Int} (hg:W1.grownBy W2 R.vt.ownBlock) (hs:W1.heap.size≤W2.heap.size)
    (hown:W2.ownsRow wB.heap.size 2 1 vt' (s.out.trace.length+1) (s.out.trace.map (Value.int .i64)++[.int .i64 x]))
    (hnew:∀b,vt'.ownBlock=some b→R.vt.ownBlock=some b∨W1.heap.size≤b):
    WAt wB (W2.setCell ⟨g,12,none⟩ vt') g {R with vt:=vt'} f n {s with out:={s.out with trace:=s.out.trace++[x]}}:=by
  have h1:=h.keep k1;have hk2:ai wB W2 []:=h1.k.grown hg (fun c hc=> .inr (ig h1.trace hc).2);have hb2:∀{t:TypeId} {c:Nat} {cs:Array Value},Blk W1 c t cs→R.vt.ownBlock≠some c→Blk W2 c t cs:=fun{t c cs} hB ht=>(hg.block c hB.lt (fun e=>ht e.symm)).trans hB
  have ho2:∀{t:TypeId} {m:Nat} {v:Value} {xs:List Value},W1.ownsRow wB.heap.size t 1 v m xs→(∀b,v.ownBlock=some b→R.vt.ownBlock≠some b)→W2.ownsRow wB.heap.size t 1 v m xs:=fun{t m v xs} hO ht=>by
    refine⟨hO.1, ?_⟩;rcases hO.2 with h2|⟨c,cap,cur,hv,hc,hh,r⟩
    · exact .inl h2
    · exact .inr ⟨c,cap,cur,hv,hc,hb2 hh (ht c (by rw[hv];rfl)),r⟩
  have B2:=hb2 h1.blk (own_ne h1.trace h1.blk (by decide));have k3:ai W2 (W2.setCell ⟨g,12,none⟩ vt') [g]:=(ai.refl W2 [g]).setCell (.inl (by simp)) _;have hB3:=B2.gu 12 vt';have o3:∀{t:TypeId} {m:Nat} {v:Value} {xs:List Value},W2.ownsRow wB.heap.size t 1 v m xs→t≠75→(W2.setCell ⟨g,12,none⟩ vt').ownsRow wB.heap.size t 1 v m xs:=fun hO ht=>au hO k3 (fun c hc e=>own_ne hO B2 ht (by rw[hc,List.mem_singleton.1 e]));have b3:∀{t:TypeId} {c:Nat} {cs:Array Value},Blk W2 c t cs→t≠75→Blk (W2.setCell ⟨g,12,none⟩ vt') c t cs:=fun hB ht=>hB.keep k3 (by simp;exact jy hB B2 ht);have old:∀{m c:Nat} {v:Value} {xs:List Value} {t:TypeId},W1.ownsRow wB.heap.size t 1 v m xs→v.ownBlock=some c→c<W1.heap.size:=fun hO hc=>(ig hO hc).1
  refine ⟨zb hk2 k3 h.base, h.base, hB3, ⟨h.bi.1, b3 (hb2 h1.bi.2.1 h.apTI) (by decide), h.bi.2.2⟩, ⟨h.bb.1, b3 (hb2 h1.bb.2.1 (own_ne h1.trace h1.bb.2.1 (by decide))) (by decide), h.bb.2.2⟩, ⟨h.ba.1, b3 (hb2 h1.ba.2.1 (own_ne h1.trace h1.ba.2.1 (by decide))) (by decide), h.ba.2.2⟩,
    o3 (ho2 h1.rows (fun b hb=>xx h1.rows h1.trace (by decide) hb)) (by decide),fun i hi=>o3 (ho2 (h1.row i hi) (fun b hb=>h.apT i hi b hb)) (by decide),h.arr, ?_,fun i hi b hb hb2=> ?_,h.apI,fun hb=> ?_,h.apR,h.ck⟩
  · show World.ownsRow _ _ 2 1 vt' (s.out.trace++[x]).length ((s.out.trace++[x]).map _)
    rw[List.length_append,List.map_append];exact o3 hown (by decide)
  · rcases hnew b hb2 with e|e
    · exact h.apT i hi b hb e
    · have:=old (h1.row i hi) hb;omega
  · rcases hnew _ hb with e|e
    · exact h.apTI e
    · have e1:W1.heap.size≤R.gi:=e
      have:=h1.bi.2.1.lt;omega
def RunRet (wB:World) (g:Nat) (f:ax) (n:Nat) (s:StM) (e:Ending) (w':World):Prop:=e= .returned (.tuple #[])∧∃R,WAt wB w' g R f n s
theorem own_cell {w:World} {base n:Nat} {e:TypeId} {v:Value} {xs:List Value} (h:w.ownsRow base e 1 v n xs) {i:Nat} (hi:i<n):
    ∃g cap,v= .slice (some ⟨g,0,none⟩) n cap∧w.cell? ⟨g,i,none⟩=xs[i]? ∧w.frozen? ⟨g,i,none⟩=false∧v.ownBlock=some g:=by
  rcases h.2 with⟨_,h0⟩|⟨g,cap,cur,rfl,h2,h3,h4,h5,h6,h7⟩
  · omega
  · refine⟨g,cap,rfl, ?_,Blk.frozen (t:=e) h3 i,rfl⟩
    rw[Blk.cell (t:=e) h3 i,←h7,Nat.mul_one,List.getElem?_take,if_pos hi,Array.getElem?_toList]
section
variable {wB W:World} {g:Nat} {R:vk} {f:ax} {n:Nat} {s:StM}
theorem WAt.c2 (h:WAt wB W g R f n s):W.cell? ⟨g,2,none⟩=some f.blocks.1:=(h.blk.cell 2).trans rfl
theorem WAt.c3 (h:WAt wB W g R f n s):W.cell? ⟨g,3,none⟩=some (.slice (some ⟨R.gi,0,none⟩) n n):=(h.blk.cell 3).trans rfl
theorem WAt.c4 (h:WAt wB W g R f n s):W.cell? ⟨g,4,none⟩=some (.slice (some ⟨R.gb,0,none⟩) n n):=(h.blk.cell 4).trans rfl
theorem WAt.c5 (h:WAt wB W g R f n s):W.cell? ⟨g,5,none⟩=some (.slice (some ⟨R.ga,0,none⟩) n n):=(h.blk.cell 5).trans rfl
theorem WAt.c6 (h:WAt wB W g R f n s):W.cell? ⟨g,6,none⟩=some R.va:=(h.blk.cell 6).trans rfl
theorem WAt.c7 (h:WAt wB W g R f n s):W.cell? ⟨g,7,none⟩=some (.int .i64 (s.block:Nat)):=(h.blk.cell 7).trans rfl
theorem WAt.c8 (h:WAt wB W g R f n s):W.cell? ⟨g,8,none⟩=some (.int .i64 (s.pc:Nat)):=(h.blk.cell 8).trans rfl
theorem WAt.c12 (h:WAt wB W g R f n s):W.cell? ⟨g,12,none⟩=some R.vt:=(h.blk.cell 12).trans rfl
theorem WAt.c13 (h:WAt wB W g R f n s):W.cell? ⟨g,13,none⟩=some (.int .i64 (s.out.steps:Nat)):=(h.blk.cell 13).trans rfl
theorem WAt.c22 (h:WAt wB W g R f n s):W.cell? ⟨g,22,none⟩=some (.bool s.ended):=(h.blk.cell 22).trans rfl
theorem WAt.fz (h:WAt wB W g R f n s) (i:Nat):W.frozen? ⟨g,i,none⟩=false:=h.blk.frozen i
theorem WAt.form (h:WAt wB W g R f n s):∃a cap,R.va= .slice a s.arrays.length cap:=by
  obtain⟨a,cap,e,_,_⟩:=cr h.rows;exact⟨a,cap,by rw[e,h.alen]⟩
theorem WAt.tform (h:WAt wB W g R f n s):∃a cap,R.vt= .slice a s.out.trace.length cap:=by
  obtain⟨a,cap,e,_,_⟩:=cr h.trace;exact⟨a,cap,e⟩
theorem WAt.arow (h:WAt wB W g R f n s) {a:Nat} (ha:a<s.arrays.length):∃b cap bb cc,R.va= .slice (some ⟨b,0,none⟩) s.arrays.length cap∧(R.ar[a]! :jl).1= .slice bb s.arrays[a]!.length cc∧W.cell? ⟨b,a,none⟩=some (.slice bb s.arrays[a]!.length cc):=by
  have hl:=h.alen;obtain⟨b,cap,e,hc,_,_⟩:=own_cell h.rows (i:=a) (by omega);obtain⟨bb,cc,e2,_,_⟩:=cr (h.row a (by omega));rw[h.aat ha]at e2;refine⟨b,cap,bb,cc,by rw[e,hl],e2, ?_⟩;rw[hc,List.getElem?_map,List.getElem?_eq_getElem (by omega),Option.map_some,←e2,getElem!_pos R.ar a (by omega)]
theorem WAt.elem (h:WAt wB W g R f n s) {a i:Nat} (ha:a<s.arrays.length) (hi:i<s.arrays[a]!.length):∃b cap q cc,R.va= .slice (some ⟨b,0,none⟩) s.arrays.length cap∧W.cell? ⟨b,a,none⟩=some (.slice (some ⟨q,0,none⟩) s.arrays[a]!.length cc)∧
    W.cell? ⟨q,i,none⟩=some (.int .i64 s.arrays[a]![i]!)∧W.frozen? ⟨q,i,none⟩=false∧(R.ar[a]! :jl).1.ownBlock=some q:=by
  have hl:=h.alen;obtain⟨b,cap,bb,cc,e,e2,hc⟩:=h.arow ha;have hr:=h.row a (by omega);rw[h.aat ha]at hr;obtain⟨q,cc2,e3,hc2,hf,ho⟩:=own_cell hr hi;rw[e2]at e3;simp only[Value.slice.injEq]at e3;obtain⟨e4,_,e5⟩:=e3;subst e4 e5;refine⟨b,cap,q,cc,e,hc, ?_,hf,ho⟩;rw[hc2,List.getElem?_map,List.getElem?_eq_getElem hi,getElem!_pos s.arrays[a]! i hi];rfl
end
theorem stateC_fin (R:vk) (f:ax) (n:Nat) (s:StM) (z:Int):((kv R f n s).setIfInBounds 9 (.int .i64 z)).setIfInBounds 22 (.bool true)=kv R f n (s.fin z):=by simp[kv,StM.fin]
theorem keeps_set2 (W:World) (g i j:Nat) (u v:Value):ai W ((W.setCell ⟨g,i,none⟩ u).setCell ⟨g,j,none⟩ v) [g]:=((ai.refl W [g]).setCell (.inl (by simp)) _).setCell (.inl (by simp)) _
theorem ed (W:World) (g i:Nat) (u:Value):ai W (W.setCell ⟨g,i,none⟩ u) [g]:=(ai.refl W [g]).setCell (.inl (by simp)) _
theorem my (wB W:World) (g:Nat) (R:vk) (f:ax) (n:Nat) (s:StM) (z:Int) (h:WAt wB W g R f n s):Calls Tryz.prog 49 #[.pointer (some ⟨g,0,none⟩),.int .i64 z] W fun e w'=>e= .returned (.tuple #[])∧WAt wB w' g R f n (s.fin z):=by
  have HW:=ag h;have HB:=ag h.blk;have f9:=HB.o.frozen 9;have f22:=HB.o.frozen 22;have c9:W.cell? ⟨g,9,none⟩=some (.int .i64 s.out.ending):=(HB.o.cell 9).trans rfl;have c22:=h.c22;clear h;go_enter Tryz.func49,Tryz.ntmps49;go_wp2;refine bodyPost_end (v:= .tuple #[]) (by have h:Tryz.f49.results=#[]:=(by kernel_rfl);simp[results,h]) rfl ⟨rfl, ?_⟩;have hb:=(HB.o.gu 9 (.int .i64 z)).gu 22 (.bool true);rw[stateC_fin]at hb;exact HW.o.turn (keeps_set2 _ _ _ _ _ _) hb rfl rfl rfl rfl rfl HW.o.ck
theorem place_any (wB W:World) (g:Nat) (R:vk) (f:ax) (n:Nat) (s:StM) (a b:Int) (h:WAt wB W g R f n s):Calls Tryz.prog 82 #[.pointer (some ⟨g,0,none⟩),.int .i64 a,.int .i64 b] W fun e w'=>e= .returned (.bool (mh s a b))∧W=w':=by
  have HW:=ag h;obtain⟨ra,rc,er⟩:=h.form;have c6:=h.c6;rw[er]at c6;by_cases h0:0≤a
  · obtain⟨a,rfl⟩:∃k:Nat,a=k:=⟨a.toNat,by omega⟩
    by_cases h1:a<s.arrays.length
    · obtain⟨q,qc,bb,cc,e1,e2,e3⟩:=h.arow h1
      rw[er]at e1;simp only[Value.slice.injEq]at e1;obtain⟨rfl,_,rfl⟩:=e1;have hpm:mh s a b=(decide (0≤b)&&decide (b<(s.arrays[a]!.length:Int))):=(by unfold mh;simp[h1]);have HP:=ag hpm;clear hpm h;generalize s.arrays.length=m at*;generalize s.arrays[a]!.length=k at*;by_cases h2:0≤b
      · go_enter Tryz.func82,Tryz.ntmps82
        go_wp2;go_ret;exact⟨ay (by rw[HP.o];simp[h2]),rfl⟩
      · go_enter Tryz.func82,Tryz.ntmps82
        go_wp2;go_ret;exact⟨ay (by rw[HP.o,show decide (0≤b)=false from decide_eq_false (by omega)];rfl),rfl⟩
    · have hpm:mh s a b=false:=by unfold mh;simp[h1]
      have HP:=ag hpm;clear hpm h;generalize s.arrays.length=m at*;go_enter Tryz.func82,Tryz.ntmps82;go_wp2;go_ret;exact⟨ay (by rw[HP.o]),rfl⟩
  · have hpm:mh s a b=false:=by unfold mh;simp[h0]
    have HP:=ag hpm;clear hpm h;go_enter Tryz.func82,Tryz.ntmps82;go_wp2;go_ret;exact⟨ay (by rw[HP.o]),rfl⟩
end Go.Proofs.YtjllbchfojonhaaGreatDoor
namespace Go.Proofs.YtjllbchfojonhaaGreatDoor
open Go.RowKit
theorem ol {w:World} {v:Value} {p0:Int} (h:bu w (v,[p0])):∃b off cap,v= .slice (some ⟨b,off,none⟩) 1 cap∧w.cell? ⟨b,off,none⟩=some (.int .i64 p0):=by
 obtain⟨a,cap,e,_,_,hc⟩:=Row.open_ (M:=Int) (cells:=intCells) h;obtain⟨b,off,rfl,_,h0⟩:=hc 0 (by simp);exact⟨b,off,cap,e,h0 0 _ rfl⟩
theorem ji {w:World} {v:Value} {p0 p1:Int} (h:bu w (v,[p0,p1])):∃b off cap,v= .slice (some ⟨b,off,none⟩) 2 cap∧w.cell? ⟨b,off,none⟩=some (.int .i64 p0)∧w.cell? ⟨b,off+1,none⟩=some (.int .i64 p1):=by
 obtain⟨a,cap,e,_,_,hc⟩:=Row.open_ (M:=Int) (cells:=intCells) h;obtain⟨b,off,rfl,_,h0⟩:=hc 0 (by simp);obtain⟨b2,off2,e2,_,h1⟩:=hc 1 (by simp);simp only[Option.some.injEq,Addr.mk.injEq,and_true]at e2;obtain⟨rfl,rfl⟩:=e2;exact⟨b,off,cap,e,h0 0 _ rfl,h1 0 _ rfl⟩
theorem ints_cells3 {w:World} {v:Value} {p0 p1 p2:Int} (h:bu w (v,[p0,p1,p2])):∃b off cap,v= .slice (some ⟨b,off,none⟩) 3 cap∧w.cell? ⟨b,off,none⟩=some (.int .i64 p0)∧w.cell? ⟨b,off+1,none⟩=some (.int .i64 p1)∧w.cell? ⟨b,off+2,none⟩=some (.int .i64 p2):=by
 obtain⟨a,cap,e,_,_,hc⟩:=Row.open_ (M:=Int) (cells:=intCells) h;obtain⟨b,off,rfl,_,h0⟩:=hc 0 (by simp);obtain⟨b2,off2,e2,_,h1⟩:=hc 1 (by simp);obtain⟨b3,off3,e3,_,h2⟩:=hc 2 (by simp);simp only[Option.some.injEq,Addr.mk.injEq,and_true]at e2 e3;obtain⟨rfl,rfl⟩:=e2;obtain⟨rfl,rfl⟩:=e3;exact⟨b,off,cap,e,h0 0 _ rfl,h1 0 _ rfl,h2 0 _ rfl⟩
theorem passes_18 (wB W:World) (g:Nat) (R:vk) (f:ax) (n:Nat) (s:StM) (h:WAt wB W g R f n s) (v:Value) (p0 p1:Nat) (hv:bu W (v,[(p0:Nat),(p1:Nat)])) (h0:p0<n) (h1:p1<n):Calls Tryz.prog 79 #[.pointer (some ⟨g,0,none⟩),.string ⟨#[99,104,107,105,100,120]⟩,v] W fun e w'=>e= .returned (.bool (gy s 18 [(p0:Nat),(p1:Nat)]))∧ai W w' []:=by
 have HW:=ag h;obtain⟨b,off,cap,rfl,x0,x1⟩:=ji hv;have c3:=h.c3;have i0:=h.dw h0;have i1:=h.dw h1;have c5:=h.c5;have a0:=h.kr h0;have CP:=ag (fun W' (h':WAt wB W' g R f n s)=>place_any wB W' g R f n s (s.A (p0:Nat)) (s.I (p1:Nat)) h');have HP:=ag (show gy s 18 [(p0:Nat),(p1:Nat)]=(mh s (s.A (p0:Nat)) (s.I (p1:Nat))) by unfold gy;simp);clear h hv;generalize hI0:s.I (p0:Nat)=I0 at*;generalize hI1:s.I (p1:Nat)=I1 at*;generalize hA0:s.A (p0:Nat)=A0 at*;go_enter Tryz.func79,Tryz.ntmps79;go_wp2;go_quiet (fail)
 go_wp2;go_quiet (fail)
 go_wp2;generalize hXq:W.drewN _=X at*;have KX:Hid (ai W X []):=ag (by rw[←hXq];exact(ai.refl W []).drewN _);clear hXq;have HS:=ag (And.intro (KX.o.cellOf c5) (And.intro (KX.o.cellOf x0) (KX.o.cellOf a0)));clear c3 c5 x0 x1 a0 i0 i1;refine wp_region_held_drew (S:=(fun w'=>w'.cell? ⟨g,5,none⟩=some (.slice (some ⟨R.ga,0,none⟩) n n)∧w'.cell? ⟨b,off,none⟩=some (.int .i64 (p0:Nat))∧w'.cell? ⟨R.ga,p0,none⟩=some (.int .i64 A0))) (by kernel_rfl) ?ahSs (fun ah=> ?_)
 case ahSs=>exact HS.o
 have k9:ai X (World.drew X) []:=(ai.refl X []).drew;have HS0:=ag (And.intro (k9.cellOf HS.o.1) (And.intro (k9.cellOf HS.o.2.1) (k9.cellOf HS.o.2.2)));have KX0:=ag (KX.o.ak k9);clear k9 KX HS;generalize World.drew X=X0 at*;refine tp 0 33 rfl ah ?_;refine tp 1 34 rfl ah ?_;refine tp 2 35 rfl ah ?_;refine tp 3 36 rfl ah ?_;refine tp 4 37 rfl ah ?_;refine tp 5 38 rfl ah ?_;refine tp 6 39 rfl ah ?_;refine tp 7 40 rfl ah ?_;refine tp 8 41 rfl ah ?_;refine tp 9 42 rfl ah ?_;refine tp 10 43 rfl ah ?_;refine t1 11 fun K hK=> ?_;go_simp
 (with_reducible refine(CP.o _ (HW.o.keep KX0.o)).mono ?_)
 rintro e wx ⟨rfl,rfl⟩;show K _ _;clear ah;refine hK.out _ _ (by exact HS0.o) fun ah=> ?_;clear hK K;try simp only[Act.put,sA,sB,sC]
 refine tp 12 6 rfl ah ?_;refine wpAnyH_done (by kernel_rfl) ?_ _;clear ah;go_wp2;go_ret;exact⟨ay (by rw[HP.o]),KX0.o⟩
theorem passes_19 (wB W:World) (g:Nat) (R:vk) (f:ax) (n:Nat) (s:StM) (h:WAt wB W g R f n s) (v:Value) (p0:Nat) (hv:bu W (v,[(p0:Nat)])) (h0:p0<n):Calls Tryz.prog 79 #[.pointer (some ⟨g,0,none⟩),.string ⟨#[99,104,107,110,105,108]⟩,v] W fun e w'=>e= .returned (.bool (gy s 19 [(p0:Nat)]))∧ai W w' []:=by
 have HW:=ag h;obtain⟨b,off,cap,rfl,x0⟩:=ol hv;have c3:=h.c3;have i0:=h.dw h0;have c5:=h.c5;have a0:=h.kr h0;have HP:=ag (show gy s 19 [(p0:Nat)]=(decide (0≤s.A (p0:Nat))) by unfold gy;simp);clear h hv;generalize hI0:s.I (p0:Nat)=I0 at*;generalize hA0:s.A (p0:Nat)=A0 at*;go_enter Tryz.func79,Tryz.ntmps79;go_wp2;go_quiet (fail)
 go_wp2;go_quiet (fail)
 go_wp2;go_ret;exact⟨ay (by rw[HP.o]),by repeat'(first |exact ai.refl _ _|apply ai.drewN|apply ai.drew)⟩
theorem passes_20 (wB W:World) (g:Nat) (R:vk) (f:ax) (n:Nat) (s:StM) (h:WAt wB W g R f n s) (v:Value) (p0:Nat) (hv:bu W (v,[(p0:Nat)])) (h0:p0<n):Calls Tryz.prog 79 #[.pointer (some ⟨g,0,none⟩),.string ⟨#[99,104,107,100,105,118]⟩,v] W fun e w'=>e= .returned (.bool (gy s 20 [(p0:Nat)]))∧ai W w' []:=by
 have HW:=ag h;obtain⟨b,off,cap,rfl,x0⟩:=ol hv;have c3:=h.c3;have i0:=h.dw h0;have HP:=ag (show gy s 20 [(p0:Nat)]=(!(s.I (p0:Nat)==0)) by unfold gy;simp);clear h hv;generalize hI0:s.I (p0:Nat)=I0 at*;go_enter Tryz.func79,Tryz.ntmps79;go_wp2;go_quiet (fail)
 go_wp2;go_ret;exact⟨ay (by rw[HP.o];rfl),by repeat'(first |exact ai.refl _ _|apply ai.drewN|apply ai.drew)⟩
theorem passes_21 (wB W:World) (g:Nat) (R:vk) (f:ax) (n:Nat) (s:StM) (h:WAt wB W g R f n s) (v:Value) (p0 p1:Nat) (hv:bu W (v,[(p0:Nat),(p1:Nat)])) (h0:p0<n) (h1:p1<n) (hi0:inI (s.I (p0:Nat))=true) (hi1:inI (s.I (p1:Nat))=true):Calls Tryz.prog 79 #[.pointer (some ⟨g,0,none⟩),.string ⟨#[99,104,107,97,100,100]⟩,v] W fun e w'=>e= .returned (.bool (gy s 21 [(p0:Nat),(p1:Nat)]))∧ai W w' []:=by
 have HW:=ag h;obtain⟨b,off,cap,rfl,x0,x1⟩:=ji hv;have c3:=h.c3;have i0:=h.dw h0;have i1:=h.dw h1;have HP:=ag (show gy s 21 [(p0:Nat),(p1:Nat)]=(inI (s.I (p0:Nat)+s.I (p1:Nat))) by unfold gy;simp);clear h hv;generalize hI0:s.I (p0:Nat)=I0 at*;generalize hI1:s.I (p1:Nat)=I1 at*;have HI0:=ag hi0;have HI1:=ag hi1;clear hi0 hi1;go_enter Tryz.func79,Tryz.ntmps79;go_wp2;go_quiet (fail)
 go_wp2;go_quiet (fail)
 go_wp2_with (first |(go_at_call 112;refine(reffits_0 I0 I1 _ HI0.o HI1.o).mono ?_;rintro e w3 ⟨rfl,rfl⟩))
 go_ret;exact⟨ay (by rw[HP.o]),by repeat'(first |exact ai.refl _ _|apply ai.drewN|apply ai.drew)⟩
theorem passes_22 (wB W:World) (g:Nat) (R:vk) (f:ax) (n:Nat) (s:StM) (h:WAt wB W g R f n s) (v:Value) (p0 p1:Nat) (hv:bu W (v,[(p0:Nat),(p1:Nat)])) (h0:p0<n) (h1:p1<n) (hi0:inI (s.I (p0:Nat))=true) (hi1:inI (s.I (p1:Nat))=true):Calls Tryz.prog 79 #[.pointer (some ⟨g,0,none⟩),.string ⟨#[99,104,107,115,117,98]⟩,v] W fun e w'=>e= .returned (.bool (gy s 22 [(p0:Nat),(p1:Nat)]))∧ai W w' []:=by
 have HW:=ag h;obtain⟨b,off,cap,rfl,x0,x1⟩:=ji hv;have c3:=h.c3;have i0:=h.dw h0;have i1:=h.dw h1;have HP:=ag (show gy s 22 [(p0:Nat),(p1:Nat)]=(inI (s.I (p0:Nat) -s.I (p1:Nat))) by unfold gy;simp);clear h hv;generalize hI0:s.I (p0:Nat)=I0 at*;generalize hI1:s.I (p1:Nat)=I1 at*;have HI0:=ag hi0;have HI1:=ag hi1;clear hi0 hi1;go_enter Tryz.func79,Tryz.ntmps79;go_wp2;go_quiet (fail)
 go_wp2;go_quiet (fail)
 go_wp2_with (first |(go_at_call 112;refine(reffits_1 I0 I1 _ HI0.o HI1.o).mono ?_;rintro e w3 ⟨rfl,rfl⟩))
 go_ret;exact⟨ay (by rw[HP.o]),by repeat'(first |exact ai.refl _ _|apply ai.drewN|apply ai.drew)⟩
theorem passes_23 (wB W:World) (g:Nat) (R:vk) (f:ax) (n:Nat) (s:StM) (h:WAt wB W g R f n s) (v:Value) (p0 p1:Nat) (hv:bu W (v,[(p0:Nat),(p1:Nat)])) (h0:p0<n) (h1:p1<n) (hi0:inI (s.I (p0:Nat))=true) (hi1:inI (s.I (p1:Nat))=true):Calls Tryz.prog 79 #[.pointer (some ⟨g,0,none⟩),.string ⟨#[99,104,107,109,117,108]⟩,v] W fun e w'=>e= .returned (.bool (gy s 23 [(p0:Nat),(p1:Nat)]))∧ai W w' []:=by
 have HW:=ag h;obtain⟨b,off,cap,rfl,x0,x1⟩:=ji hv;have c3:=h.c3;have i0:=h.dw h0;have i1:=h.dw h1;have HP:=ag (show gy s 23 [(p0:Nat),(p1:Nat)]=(inI (s.I (p0:Nat)*s.I (p1:Nat))) by unfold gy;simp);clear h hv;generalize hI0:s.I (p0:Nat)=I0 at*;generalize hI1:s.I (p1:Nat)=I1 at*;have HI0:=ag hi0;have HI1:=ag hi1;clear hi0 hi1;go_enter Tryz.func79,Tryz.ntmps79;go_wp2;go_quiet (fail)
 go_wp2;go_quiet (fail)
 go_wp2_with (first |(go_at_call 112;refine(reffits_2 I0 I1 _ HI0.o HI1.o).mono ?_;rintro e w3 ⟨rfl,rfl⟩))
 go_ret;exact⟨ay (by rw[HP.o]),by repeat'(first |exact ai.refl _ _|apply ai.drewN|apply ai.drew)⟩
theorem passes_24 (wB W:World) (g:Nat) (R:vk) (f:ax) (n:Nat) (s:StM) (h:WAt wB W g R f n s) (v:Value) (p0:Nat) (hv:bu W (v,[(p0:Nat)])) (h0:p0<n):Calls Tryz.prog 79 #[.pointer (some ⟨g,0,none⟩),.string ⟨#[99,104,107,108,101,110]⟩,v] W fun e w'=>e= .returned (.bool (gy s 24 [(p0:Nat)]))∧ai W w' []:=by
 have HW:=ag h;obtain⟨b,off,cap,rfl,x0⟩:=ol hv;have c3:=h.c3;have i0:=h.dw h0;have HP:=ag (show gy s 24 [(p0:Nat)]=((decide (0≤s.I (p0:Nat))&&decide (s.I (p0:Nat)≤64))) by unfold gy;simp);clear h hv;generalize hI0:s.I (p0:Nat)=I0 at*;go_enter Tryz.func79,Tryz.ntmps79;go_wp2;go_quiet (fail)
 rcases Bool.eq_false_or_eq_true (decide (0≤I0))with h9|h9
 ·go_wp2;go_ret;exact⟨ay (by rw[HP.o];simp[h9]),by repeat'(first |exact ai.refl _ _|apply ai.drewN|apply ai.drew)⟩
 ·go_wp2;go_ret;exact⟨ay (by rw[HP.o];simp[h9]),by repeat'(first |exact ai.refl _ _|apply ai.drewN|apply ai.drew)⟩
theorem r83 (tmps:Array Value) (P:Program) (w:World):(results Tryz.f48 tmps).run P w= .ok (.tuple #[]) w:=by have h:Tryz.f48.results=#[]:=(by kernel_rfl);simp[results,h]
theorem ug {w:World} {a:Act} {post:Ending→World→Prop} (hd:a.defers=[]) (h:post (.returned (.tuple #[])) w):bodyPost Tryz.prog Tryz.f48 post Exit.normal a w:=bodyPost_end (v:= .tuple #[]) (r83 _ _ _) hd h
theorem uf {w:World} {a:Act} {post:Ending→World→Prop} (hd:a.defers=[]) (h:post (.returned (.tuple #[])) w):bodyPost Tryz.prog Tryz.f48 post Exit.ret a w:=bodyPost_ret (v:= .tuple #[]) (r83 _ _ _) hd h
theorem rows_word (z:Nat) (hz:z<27) (w:World):Calls Tryz.prog 51 #[] w fun e w'=>∃gb,e= .returned (.slice (some ⟨gb,0,none⟩) 27 27)∧ai w w' []∧w'.cell? ⟨gb,z*3,none⟩=some (.string (jb z)):=
 (rows_any w).mono fun e w' ⟨h1,h2⟩=>⟨_,h1,by rw[h2];exact(ai.refl w []).alloc _,by rw[h2,(Blk.new w 110 jv).cell];exact(kcell z hz).1⟩
theorem info2:(Tryz.prog.info? 2).map (fun i=>(i.zero,i.size,i.bytes))=some (some (.int .i64 0),1,8):=by kernel_rfl
theorem info61:(Tryz.prog.info? 64).map (fun i=>(i.zero,i.size,i.bytes))=some (some (.slice none 0 0),1,24):=by kernel_rfl
theorem made_ints (q:Nat):madeCells (Value.int .i64 0).cells q=Aq (List.replicate q 0):=by
 unfold Aq;apply Array.ext
 ·rw[size_madeCells];simp
 ·intro i h1 h2;unfold madeCells;simp[Value.cells,Nat.mod_one]
theorem make_ints (q:Nat) (hq:q≤1000) (w:World):(Instr.makeSlice 64 (.int .i64 (q:Int)) (.int .i64 (q:Int))).run Tryz.prog w= .ok (.slice (some ⟨w.heap.size,0,none⟩) q q) (w.alloc (.cells (Aq (List.replicate q 0)) 2)):=by
 obtain⟨i,hi,he⟩:=Option.map_eq_some_iff.1 info2;simp only[Prod.mk.injEq]at he;obtain⟨hz,hsz,hby⟩:=he;have hr:=Go.run_makeSlice (P:=Tryz.prog) (w:=w) 64 2 i (.int .i64 0) (by kernel_rfl) hi hz .i64 .i64 (q:Int) (q:Int) (by omega) (Int.le_refl _) (by rw[hsz];omega) (by rw[hby];omega) (by omega);rw[hsz,Int.toNat_natCast,Nat.mul_one,made_ints]at hr;exact hr
theorem own_made {w:World} {base g:Nat} {l:List Int} (h:Blk w g 2 (Aq l)) (hb:base≤g) (hl:l.length≤1000):w.ownsRow base 2 1 (.slice (some ⟨g,0,none⟩) l.length l.length) l.length (l.map (Value.int .i64)):=
 ⟨by simp,.inr ⟨g,l.length,Aq l,rfl,hb,h,Nat.le_refl _,by unfold maxLen;omega,by simp[Aq],by rw[Nat.mul_one,List.take_of_length_le (by simp[Aq])];rfl⟩⟩
theorem list8 {α:Type} {l:List α} (h:l.length=8):∃a b c d e f g i,l=[a,b,c,d,e,f,g,i]:=by match l,h with |[a,b,c,d,e,f,g,i],_=>exact⟨a,b,c,d,e,f,g,i,rfl⟩
theorem yz (R:vk) (f:ax) (n:Nat) (s:StM) (t c:Nat) (ht:t<8) (h8:s.out.checks.length=8):(kv R f n s).setIfInBounds (14+t) (.int .i64 ((c:Nat)+1:Int))=kv R f n {s with out:={s.out with checks:=s.out.checks.set t (c+1)}}:=by
 obtain⟨c0,c1,c2,c3,c4,c5,c6,c7,e⟩:=list8 h8;rcases(show t=0∨t=1∨t=2∨t=3∨t=4∨t=5∨t=6∨t=7 by omega)with rfl|rfl|rfl|rfl|rfl|rfl|rfl|rfl<;>simp[kv,e]
theorem mf (R:vk) (f:ax) (n:Nat) (s:StM) (z:Int):(kv R f n s).setIfInBounds 11 (.int .i64 z)=kv R f n {s with out:={s.out with trap:=z}}:=by simp[kv]
theorem Cm {l:List Nat} {i:Nat} (h:i<l.length):l[i]! ∈l:=by rw[getElem!_pos l i h];exact List.getElem_mem h
theorem ints_cells0 {w:World} {v:Value} (h:bu w (v,[])):∃a cap,v= .slice a 0 cap:=by
 obtain⟨a,cap,e,_⟩:=h;exact⟨a,cap,e⟩
end Go.Proofs.YtjllbchfojonhaaGreatDoor
