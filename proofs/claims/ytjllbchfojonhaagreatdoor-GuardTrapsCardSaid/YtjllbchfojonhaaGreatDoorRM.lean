/- A program's run, plainly: the mirror of the document's interpreter; what every state of a run keeps to. -/
import Derived.Test.YtjllbchfojonhaaGreatDoorB2
import Derived.Test.YtjllbchfojonhaaGreatDoorB3
import Derived.Test.YtjllbchfojonhaaGreatDoorShape
set_option linter.unusedVariables false
set_option linter.unusedSimpArgs false
set_option maxRecDepth 100000
set_option maxHeartbeats 200000000
namespace Go.Proofs.YtjllbchfojonhaaGreatDoor
def inI (n:Int):Bool:=decide (-9223372036854775808≤n∧n≤9223372036854775807)
def wrapI (n:Int):Int:=(n+9223372036854775808) % 18446744073709551616 -9223372036854775808
structure OutM where
 ending:Int
 value:Int
 trap:Int
 trace:List Int
 steps:Nat
 checks:List Nat
structure StM where
 ints:List Int
 bools:List Bool
 arrs:List Int
 arrays:List (List Int)
 block:Nat
 pc:Nat
 out:OutM
 ended:Bool
def StM.I (s:StM) (v:Int):Int:=s.ints[v.toNat]!
def StM.B (s:StM) (v:Int):Bool:=s.bools[v.toNat]!
def StM.A (s:StM) (v:Int):Int:=s.arrs[v.toNat]!
def StM.fin (s:StM) (e:Int):StM:={s with out:={s.out with ending:=e},ended:=true}
def StM.jg (s:StM) (d x:Int):StM:={s with ints:=s.ints.set d.toNat x}
def StM.lq (s:StM) (d:Int) (x:Bool):StM:={s with bools:=s.bools.set d.toNat x}
def StM.mg (s:StM) (d x:Int):StM:={s with arrs:=s.arrs.set d.toNat x}
def mh (s:StM) (a i:Int):Bool:=decide (0≤a)&&decide (a<s.arrays.length)&&decide (0≤i)&&decide (i<s.arrays[a.toNat]!.length)
def gy (s:StM) (op:Int) (l:List Int):Bool:=
 let a:=s.I l[0]!
 let b:=if 1<l.length then s.I l[1]! else 0
 if op=18 then mh s (s.A l[0]!) b
 else if op=19 then decide (0≤s.A l[0]!)
 else if op=20 then !(a==0)
 else if op=21 then inI (a+b)
 else if op=22 then inI (a -b)
 else if op=23 then inI (a*b)
 else decide (0≤a)&&decide (a≤64)
def qf (s:StM) (op:Int) (l:List Int):StM:=
 let t:=(op -17).toNat
 let s1:StM:={s with out:={s.out with checks:=s.out.checks.set t (s.out.checks[t]! +1)}}
 if gy s op l=true then s1 else StM.fin {s1 with out:={s1.out with trap:=op -17}} 1
def vg (s:StM) (x:cu):StM:=
 let l:=x.args.2
 let a:=if 0<l.length then s.I l[0]! else 0
 let p:=if 0<l.length then s.B l[0]! else false
 let arr:=if 0<l.length then s.A l[0]! else -1
 let b:=if 1<l.length then s.I l[1]! else 0
 let q:=if 1<l.length then s.B l[1]! else false
 let d:=x.dst
 if x.op=0 then s.jg d x.num
 else if x.op=1∨x.op=25∨x.op=26 then((s.jg d a).lq d p).mg d arr
 else if x.op=2 then s.jg d (wrapI (a+b))
 else if x.op=3 then s.jg d (wrapI (a -b))
 else if x.op=4 then s.jg d (wrapI (a*b))
 else if x.op=5 then if b=0 then s.fin 2 else s.jg d (wrapI (a.tdiv b))
 else if x.op=6 then if b=0 then s.fin 2 else s.jg d (a.tmod b)
 else if x.op=7 then s.lq d (a==b)
 else if x.op=8 then s.lq d (decide (a<b))
 else if x.op=9 then s.lq d (decide (a≤b))
 else if x.op=10 then s.lq d (!p)
 else if x.op=11 then s.lq d (p&&q)
 else if x.op=12 then if arr<0 then s.fin 2 else s.jg d s.arrays[arr.toNat]!.length
 else if x.op=13 then if mh s arr b=true then s.jg d s.arrays[arr.toNat]![b.toNat]! else s.fin 2
 else if x.op=14 then if mh s arr b=true then{s with arrays:=s.arrays.set arr.toNat (s.arrays[arr.toNat]!.set b.toNat (s.I l[2]!))}else s.fin 2
 else if x.op=15 then
  if a<0∨64<a then s.fin 2
  else if 32≤s.arrays.length then s.fin 3
  else({s with arrays:=s.arrays++[List.replicate a.toNat 0]}).mg d s.arrays.length
 else if x.op=16 then s.mg d (-1)
 else if x.op=17 then if 4096≤s.out.trace.length then s.fin 3 else{s with out:={s.out with trace:=s.out.trace++[a]}}
 else s
def di (s:StM) (x:cu):StM:=if 18≤x.op∧x.op≤24 then qf s x.op x.args.2 else vg s x
def uq (p:jk) (b:Nat):Option Int:=
 ((List.range p.froms.2.length).find? fun i=>p.froms.2[i]! ==(b:Int)).map fun i=>p.args.2[i]!
def lu (l:List jk) (old s:StM) (b:Nat):StM:=
 l.foldl (fun s p => match uq p b with
  |some a=>((s.jg p.dst (old.I a)).lq p.dst (old.B a)).mg p.dst (old.A a)
  |none=>s) s
def qw (blk:Nat→df) (s:StM) (to:Nat):StM:=
 if((blk to).phis.2.all fun p=>(uq p s.block).isSome)=true then{lu (blk to).phis.2 s s s.block with block:=to,pc:=0}
 else StM.fin {s with block:=to,pc:=0} 2
def Da (blk:Nat→df) (s0:StM):StM:=
 let s:StM:={s0 with out:={s0.out with steps:=s0.out.steps+1}}
 let b:=blk s.block
 if s.pc<b.insts.2.length then di {s with pc:=s.pc+1} b.insts.2[s.pc]!
 else if b.kind=2 then StM.fin {s with out:={s.out with value:=s.I b.var}} 0
 else if b.kind=0∨s.B b.var=true then qw blk s b.to0.toNat
 else qw blk s b.to1.toNat
def um (blk:Nat→df):Nat→StM→StM
 |0,s=>s
 |k+1,s=>if s.ended=true then s else um blk k (Da blk s)
end Go.Proofs.YtjllbchfojonhaaGreatDoor
namespace Go.Proofs.YtjllbchfojonhaaGreatDoor
def sigT:Nat→List Int
 |2=>[0,0]|3=>[0,0]|4=>[0,0]|5=>[0,0]|6=>[0,0]|7=>[0,0]|8=>[0,0]|9=>[0,0]
 |10=>[1]|11=>[1,1]|12=>[2]|13=>[2,0]|14=>[2,0,0]|15=>[0]|17=>[0]
 |18=>[2,0]|19=>[2]|20=>[0]|21=>[0,0]|22=>[0,0]|23=>[0,0]|24=>[0]|25=>[0,0]|26=>[0,2]
 |_=>[]
def sigD:Nat→Option Int
 |0=>some 0|2=>some 0|3=>some 0|4=>some 0|5=>some 0|6=>some 0
 |7=>some 1|8=>some 1|9=>some 1|10=>some 1|11=>some 1
 |12=>some 0|13=>some 0|15=>some 2|16=>some 2|25=>some 0|26=>some 0
 |_=>none
def okD (n:Nat) (ty:Int→Int) (d:Int):Option Int→Prop
 |some t=>0≤d∧d<(n:Int)∧ty d=t
 |none=>d= -1
structure Cu (n:Nat) (ty:Int→Int) (x:cu):Prop where
 op:0≤x.op∧x.op<27
 arg:∀a∈x.args.2,0≤a∧a<(n:Int)
 copy:x.op=1→x.args.2.length=1∧0≤x.dst∧x.dst<(n:Int)∧ty x.dst=ty x.args.2[0]!
 len:x.op≠1→x.args.2.length=(sigT x.op.toNat).length
 typ:x.op≠1→∀i,i<x.args.2.length→ty x.args.2[i]! =(sigT x.op.toNat)[i]!
 dst:x.op≠1→okD n ty x.dst (sigD x.op.toNat)
structure Full (n:Nat) (s:StM):Prop where
 i:s.ints.length=n
 b:s.bools.length=n
 a:s.arrs.length=n
section
variable {n:Nat} {ty:Int→Int} {s s':StM}
theorem getset {α:Type} [Inhabited α] (l:List α) {d v:Int} (x:α) (hd:0≤d∧d<(l.length:Int)) (hv:0≤v):(l.set d.toNat x)[v.toNat]! =if v=d then x else l[v.toNat]! :=by
 by_cases h:v.toNat<l.length
 ·rw[getElem!_pos _ _ (by simpa using h),getElem!_pos l _ h,List.getElem_set];by_cases e:v=d
  ·subst e;simp
  ·rw[if_neg e,if_neg (by omega)]
 ·rw[getElem!_neg _ _ (by simpa using h),getElem!_neg l _ h,if_neg (by omega)]
theorem I_setI (s:StM) {d v:Int} (x:Int) (hd:0≤d∧d<(s.ints.length:Int)) (hv:0≤v):(s.jg d x).I v=if v=d then x else s.I v:=getset s.ints x hd hv
theorem A_setA (s:StM) {d v:Int} (x:Int) (hd:0≤d∧d<(s.arrs.length:Int)) (hv:0≤v):(s.mg d x).A v=if v=d then x else s.A v:=getset s.arrs x hd hv
theorem Full.jg (h:Full n s) (d x:Int):Full n (s.jg d x):=⟨by show(s.ints.set _ _).length=n;rw[List.length_set,h.i],h.b,h.a⟩
theorem Full.lq (h:Full n s) (d:Int) (x:Bool):Full n (s.lq d x):=⟨h.i,by show(s.bools.set _ _).length=n;rw[List.length_set,h.b],h.a⟩
theorem Full.mg (h:Full n s) (d x:Int):Full n (s.mg d x):=⟨h.i,h.b,by show(s.arrs.set _ _).length=n;rw[List.length_set,h.a]⟩
theorem Full.fin (h:Full n s) (e:Int):Full n (s.fin e):=⟨h.i,h.b,h.a⟩
end
section
variable {n:Nat} {ty:Int→Int} {s s':StM}
theorem op_cases {z:Int} (h:0≤z∧z<27):z=0∨z=1∨z=2∨z=3∨z=4∨z=5∨z=6∨z=7∨z=8∨z=9∨z=10∨z=11∨z=12∨z=13∨z=14∨z=15∨z=16∨z=17∨z=18∨z=19∨z=20∨z=21∨z=22∨z=23∨z=24∨z=25∨z=26:=by omega
theorem nth_mem {l:List Int} {i:Nat} (h:i<l.length):l[i]! ∈l:=by rw[getElem!_pos l i h];exact List.getElem_mem h
end
end Go.Proofs.YtjllbchfojonhaaGreatDoor
namespace Go.Proofs.YtjllbchfojonhaaGreatDoor
structure ArgM where
  int:Int
  bool:Bool
  arr:Int
instance:Inhabited ArgM:=⟨⟨0,false,0⟩⟩
def qg (n:Nat) (ty:Int→Int) (args:List ArgM) (arrays:List (List Int)):StM:=
  { ints := (List.range n).map fun i => if i < args.length ∧ ty i = 0 then args[i]!.int else 0
    bools:=(List.range n).map fun i=>if i<args.length∧ty i=1 then args[i]!.bool else false
    arrs:=(List.range n).map fun i=>if i<args.length∧¬ty i=0∧¬ty i=1 then args[i]!.arr else -1
    arrays:=arrays,block:=0,pc:=0
    out:={ending:=3,value:=0,trap:=0,trace:=[],steps:=0,checks:=[0,0,0,0,0,0,0,0]}
    ended:=false}
structure Dg (nb n:Nat) (ty:Int→Int) (b:df):Prop where
  inst:∀x∈b.insts.2,Cu n ty x
  kind:b.kind=0∨b.kind=1∨b.kind=2
  jump:b.kind=0→0≤b.to0∧b.to0<(nb:Int)
  iff:b.kind=1→0≤b.to0∧b.to0<(nb:Int)∧0≤b.to1∧b.to1<(nb:Int)∧0≤b.var∧b.var<(n:Int)∧ty b.var=1
  ret:b.kind=2→0≤b.var∧b.var<(n:Int)∧ty b.var=0
def Stays (s t:StM):Prop:=t.block=s.block∧t.pc=s.pc
theorem stays_ite {s a b:StM} {c:Prop} [Decidable c] (h1:Stays s a) (h2:Stays s b):Stays s (if c then a else b):=by split<;>assumption
theorem raw_stays (s:StM) (x:cu):Stays s (vg s x):=by
  unfold vg;simp only
  repeat'(first |exact⟨rfl,rfl⟩|apply stays_ite)
theorem check_stays (s:StM) (op:Int) (l:List Int):Stays s (qf s op l):=by
  unfold qf;simp only
  repeat'(first |exact⟨rfl,rfl⟩|apply stays_ite)
theorem inst_stays (s:StM) (x:cu):(di s x).block=s.block∧(di s x).pc=s.pc:=stays_ite (check_stays _ _ _) (raw_stays _ _)
section
variable {n:Nat} {s:StM}
def StM.tick (s:StM):StM:={s with out:={s.out with steps:=s.out.steps+1}}
def StM.next (s:StM):StM:={s with pc:=s.pc+1}
def StM.val (s:StM) (x:Int):StM:={s with out:={s.out with value:=x}}
theorem step_eq (blk:Nat→df) (s:StM):Da blk s=
    if s.pc<(blk s.block).insts.2.length then di s.tick.next (blk s.block).insts.2[s.pc]!
    else if(blk s.block).kind=2 then(s.tick.val (s.I (blk s.block).var)).fin 0
    else if(blk s.block).kind=0∨s.B (blk s.block).var=true then qw blk s.tick (blk s.block).to0.toNat
    else qw blk s.tick (blk s.block).to1.toNat:=rfl
theorem Full.of (h:Full n s) {t:StM} (hi:t.ints=s.ints) (hb:t.bools=s.bools) (ha:t.arrs=s.arrs):Full n t:=⟨by rw[hi];exact h.i,by rw[hb];exact h.b,by rw[ha];exact h.a⟩
theorem begin_full (n:Nat) (ty:Int→Int) (args:List ArgM) (arrays:List (List Int)):Full n (qg n ty args arrays):=⟨by simp[qg],by simp[qg],by simp[qg]⟩
end
end Go.Proofs.YtjllbchfojonhaaGreatDoor
namespace Go.Proofs.YtjllbchfojonhaaGreatDoor
structure kg (n K:Nat) (s:StM):Prop where
 f:Full n s
 i:∀x∈s.ints,inI x=true
 e:∀l∈s.arrays,∀x∈l,inI x=true
 z:∀l∈s.arrays,l.length≤64
 a:∀x∈s.arrs,-1≤x∧x<(s.arrays.length:Int)
 m:s.arrays.length≤32
 t:s.out.trace.length≤4096
 c:s.out.checks.length=8
 k:∀x∈s.out.checks,x≤K
section
variable {n K:Nat} {ty:Int→Int} {s:StM}
theorem jo {c:Prop} [Decidable c] {a b:StM} (h1:c→kg n K a) (h2:¬c→kg n K b):kg n K (if c then a else b):=by
 split
 ·exact h1 ‹_›
 ·exact h2 ‹_›
theorem kg.more (h:kg n K s) {K2:Nat} (hk:K≤K2):kg n K2 s:=⟨h.f,h.i,h.e,h.z,h.a,h.m,h.t,h.c,fun x hx=>Nat.le_trans (h.k x hx) hk⟩
theorem Ao {α:Type} {l:List α} {i:Nat} {x y:α} (h:y∈l.set i x):y∈l∨y=x:=List.mem_or_eq_of_mem_set h
theorem inI_wrap (z:Int):inI (wrapI z)=true:=by
 unfold inI wrapI;rw[decide_eq_true_eq];omega
theorem Dq:inI 0=true:=by decide
theorem kg.I (h:kg n K s) (v:Int):inI (s.I v)=true:=by
 unfold StM.I;by_cases hv:v.toNat<s.ints.length
 ·exact h.i _ (by rw[getElem!_pos s.ints _ hv];exact List.getElem_mem hv)
 ·rw[getElem!_neg s.ints _ hv];exact Dq
theorem kg.A (h:kg n K s) {v:Int} (h0:0≤v∧v<(n:Int)): -1≤s.A v∧s.A v<(s.arrays.length:Int):=by
 unfold StM.A;have hv:v.toNat<s.arrs.length:=(by rw[h.f.a];omega);exact h.a _ (by rw[getElem!_pos s.arrs _ hv];exact List.getElem_mem hv)
theorem kg.elem (h:kg n K s) (a b:Nat):inI s.arrays[a]![b]! =true:=by
 by_cases ha:a<s.arrays.length
 ·by_cases hb:b<s.arrays[a]!.length
  ·refine h.e s.arrays[a]! ?_ _ ?_
   ·rw[getElem!_pos s.arrays a ha];exact List.getElem_mem ha
   ·rw[getElem!_pos s.arrays[a]! b hb];exact List.getElem_mem hb
  ·rw[getElem!_neg s.arrays[a]! b hb];exact Dq
 ·rw[getElem!_neg s.arrays a ha];rw[getElem!_neg (default:List Int) b (by show ¬b<([]:List Int).length;simp)];exact Dq
theorem kg.long (h:kg n K s) (a:Nat):s.arrays[a]!.length≤64:=by
 by_cases ha:a<s.arrays.length
 ·exact h.z _ (by rw[getElem!_pos s.arrays a ha];exact List.getElem_mem ha)
 ·rw[getElem!_neg s.arrays a ha];show([]:List Int).length≤64;simp
theorem inI_nat {k:Nat} (h:k≤4096):inI (k:Int)=true:=by simp[inI];omega
theorem kg.jg (h:kg n K s) (d:Int) {x:Int} (hx:inI x=true):kg n K (s.jg d x):=
 ⟨h.f.jg d x,fun y hy=>(Ao hy).elim (h.i y) (fun e=>e▸hx),h.e,h.z,h.a,h.m,h.t,h.c,h.k⟩
theorem kg.lq (h:kg n K s) (d:Int) (x:Bool):kg n K (s.lq d x):=⟨h.f.lq d x,h.i,h.e,h.z,h.a,h.m,h.t,h.c,h.k⟩
theorem kg.mg (h:kg n K s) (d:Int) {x:Int} (hx: -1≤x∧x<(s.arrays.length:Int)):kg n K (s.mg d x):=
 ⟨h.f.mg d x,h.i,h.e,h.z,fun y hy=>(Ao hy).elim (h.a y) (fun e=>e▸hx),h.m,h.t,h.c,h.k⟩
theorem kg.fin (h:kg n K s) (z:Int):kg n K (s.fin z):=⟨h.f.fin z,h.i,h.e,h.z,h.a,h.m,h.t,h.c,h.k⟩
theorem inI_tmod {a b:Int} (ha:inI a=true) (hb:¬b=0):inI (a.tmod b)=true:=by
 simp only[inI,decide_eq_true_eq]at ha ⊢;have h1:(a.tmod b).natAbs≤a.natAbs:=(by rw[Int.natAbs_tmod];exact Nat.mod_le _ _);rcases Int.le_total 0 a with h0|h0
 ·have:=Int.tmod_nonneg b h0;omega
 ·have e:a.tmod b= -((-a).tmod b):=(by rw[Int.neg_tmod];omega);have:=Int.tmod_nonneg b (show 0≤ -a by omega);omega
theorem check_good (h:kg n K s) (op:Int) (l:List Int):kg n (K+1) (qf s op l):=by
 unfold qf;simp only;have hc:(s.out.checks.set (op -17).toNat (s.out.checks[(op -17).toNat]! +1)).length=8:=by rw[List.length_set];exact h.c
 have hk : ∀ x ∈ s.out.checks.set (op - 17).toNat (s.out.checks[(op - 17).toNat]! + 1), x ≤ K + 1 := fun x hx => (Ao hx).elim (fun hm => by have := h.k x hm; omega) (fun e => by
  subst e;by_cases hl:(op -17).toNat<s.out.checks.length
  ·have:=h.k _ (by rw[getElem!_pos s.out.checks _ hl];exact List.getElem_mem hl:s.out.checks[(op -17).toNat]! ∈s.out.checks);omega
  ·rw[getElem!_neg s.out.checks _ hl];show 0+1≤K+1;omega)
 refine jo (fun _=> ?_) (fun _=>kg.fin ?_ 1)
 ·exact⟨⟨h.f.i,h.f.b,h.f.a⟩,h.i,h.e,h.z,h.a,h.m,h.t,hc,hk⟩
 ·exact⟨⟨h.f.i,h.f.b,h.f.a⟩,h.i,h.e,h.z,h.a,h.m,h.t,hc,hk⟩
theorem kg.out_ (h:kg n K s) (o:OutM) (ht:o.trace.length≤4096) (hc:o.checks=s.out.checks):kg n K {s with out:=o}:=
 ⟨⟨h.f.i,h.f.b,h.f.a⟩,h.i,h.e,h.z,h.a,h.m,ht,by show o.checks.length=8;rw[hc];exact h.c,by show ∀x∈o.checks,_;rw[hc];exact h.k⟩
theorem raw_good (h:kg n K s) {x:cu} (hx:Cu n ty x) (hn:inI x.num=true):kg n K (vg s x):=by
 have hI:∀i,inI (if i<x.args.2.length then s.I x.args.2[i]! else 0)=true:=fun i=>by
  split
  ·exact h.I _
  ·exact Dq
 have hA: -1≤(if 0<x.args.2.length then s.A x.args.2[0]! else -1)∧(if 0<x.args.2.length then s.A x.args.2[0]! else -1)<(s.arrays.length:Int):=by
  split
  ·exact h.A (hx.arg _ (nth_mem ‹_›))
  ·omega
 unfold vg;simp only;have ha:=hI 0;have hb:=hI 1;generalize(if 0<x.args.2.length then s.I x.args.2[0]! else 0)=a at*;generalize(if 1<x.args.2.length then s.I x.args.2[1]! else 0)=b at*;generalize(if 0<x.args.2.length then s.A x.args.2[0]! else -1)=arr at*;refine jo (fun _=>h.jg _ hn) (fun _=> ?_);refine jo (fun _=>((h.jg _ ha).lq _ _).mg _ hA) (fun _=> ?_);refine jo (fun _=>h.jg _ (inI_wrap _)) (fun _=> ?_);refine jo (fun _=>h.jg _ (inI_wrap _)) (fun _=> ?_);refine jo (fun _=>h.jg _ (inI_wrap _)) (fun _=> ?_);refine jo (fun _=>jo (fun _=>h.fin 2) (fun _=>h.jg _ (inI_wrap _))) (fun _=> ?_);refine jo (fun _=>jo (fun _=>h.fin 2) (fun hb0=>h.jg _ (inI_tmod ha hb0))) (fun _=> ?_);refine jo (fun _=>h.lq _ _) (fun _=> ?_);refine jo (fun _=>h.lq _ _) (fun _=> ?_);refine jo (fun _=>h.lq _ _) (fun _=> ?_);refine jo (fun _=>h.lq _ _) (fun _=> ?_);refine jo (fun _=>h.lq _ _) (fun _=> ?_);refine jo (fun _=>jo (fun _=>h.fin 2) (fun _=>h.jg _ (inI_nat (by have:=h.long arr.toNat;omega)))) (fun _=> ?_);refine jo (fun _=>jo (fun _=>h.jg _ (h.elem _ _)) (fun _=>h.fin 2)) (fun _=> ?_);refine jo (fun _=>jo (fun _=> ?_) (fun _=>h.fin 2)) (fun _=> ?_)
 ·refine⟨⟨h.f.i,h.f.b,h.f.a⟩,h.i,fun l hl=> ?_,fun l hl=> ?_,fun y hy=>by show _∧_<((s.arrays.set _ _).length:Int);rw[List.length_set];exact h.a y hy,by show(s.arrays.set _ _).length≤32;rw[List.length_set];exact h.m,h.t,h.c,h.k⟩
  ·rcases Ao hl with hl|rfl
   ·exact h.e l hl
   ·intro y hy;rcases Ao hy with hy|rfl
    ·by_cases har:arr.toNat<s.arrays.length
     ·exact h.e _ (by rw[getElem!_pos s.arrays _ har];exact List.getElem_mem har) y hy
     ·rw[getElem!_neg s.arrays _ har]at hy;cases hy
    ·exact h.I _
  ·rcases Ao hl with hl|rfl
   ·exact h.z l hl
   ·rw[List.length_set];exact h.long _
 refine jo (fun _=>jo (fun _=>h.fin 2) (fun h64=>jo (fun _=>h.fin 3) (fun h32=> ?_))) (fun _=> ?_)
 ·refine kg.mg (s:={s with arrays:=s.arrays++[List.replicate a.toNat 0]}) ⟨⟨h.f.i,h.f.b,h.f.a⟩,h.i,fun l hl=> ?_,fun l hl=> ?_,fun y hy=> ?_, ?_,h.t,h.c,h.k⟩ _ ?_
  ·rcases List.mem_append.1 hl with hl|hl
   ·exact h.e l hl
   ·rw[List.mem_singleton.1 hl];intro y hy;rw[List.eq_of_mem_replicate hy];exact Dq
  ·rcases List.mem_append.1 hl with hl|hl
   ·exact h.z l hl
   ·rw[List.mem_singleton.1 hl,List.length_replicate];omega
  ·have:=h.a y hy;show _∧_<((s.arrays++_).length:Int);rw[List.length_append];constructor<;>omega
  ·show(s.arrays++_).length≤32;rw[List.length_append,List.length_singleton];omega
  ·show _∧_<((s.arrays++_).length:Int);rw[List.length_append,List.length_singleton];constructor<;>omega
 refine jo (fun _=>h.mg _ (by omega)) (fun _=> ?_);refine jo (fun _=>jo (fun _=>h.fin 3) (fun ht=>h.out_ _ ?_ rfl)) (fun _=>h);show(s.out.trace++[a]).length≤4096;rw[List.length_append,List.length_singleton];omega
theorem inst_good (h:kg n K s) {x:cu} (hx:Cu n ty x) (hn:inI x.num=true):kg n (K+1) (di s x):=by
 unfold di;exact jo (fun _=>check_good h _ _) (fun _=>(raw_good h hx hn).more (Nat.le_succ K))
end
end Go.Proofs.YtjllbchfojonhaaGreatDoor
