/- slices.Reverse of an own row of ints; own rows beside others; words. ; The guard's leaves: slices.Equal, Clone of ints and bools; Check.same; its number among the checks; contracts. -/
import Derived.Test.YtjllbchfojonhaaGreatDoorFlat
import Derived.Test.YtjllbchfojonhaaGreatDoorShelfG
import Derived.Test.YtjllbchfojonhaaGreatDoorGK
import Derived.BigQuiet
set_option linter.unusedVariables false
set_option linter.unusedSimpArgs false
set_option maxRecDepth 100000
set_option maxHeartbeats 200000000
namespace Go.Proofs.YtjllbchfojonhaaGreatDoor
open Go.RowKit Go.Shelf Go.Lib
def setsL:List Value→Nat→List Value→List Value
 |xs,_,[]=>xs
 |xs,o,v::r=>setsL (xs.set o v) (o+1) r
theorem setsL_eq:∀(vs xs:List Value) (o:Nat),o+vs.length≤xs.length→setsL xs o vs=xs.take o++vs++xs.drop (o+vs.length)
 |[],xs,o,_=>by simp[setsL]
 |v::r,xs,o,h=>by
  have hl:o+(r.length+1)≤xs.length:=(by simpa using h);unfold setsL;rw[setsL_eq r (xs.set o v) (o+1) (by rw[List.length_set];omega)]
  have e1:(xs.set o v).take (o+1)=xs.take o++[v]:=by
   rw[List.take_succ_eq_append_getElem (by rw[List.length_set];omega),List.take_set_of_le (Nat.le_refl _)];simp
  have e2:(xs.set o v).drop (o+1+r.length)=xs.drop (o+(r.length+1)):=by
   rw[List.drop_set_of_lt (by omega)];congr 1;omega
  rw[e1,e2,List.length_cons];simp
theorem own_setCells {base size n b:Nat} {e:TypeId} {v:Value}:∀(vs xs:List Value) (o:Nat) (w:World),w.ownsRow base e size v n xs→v.ownBlock=some b→(w.setCells b o vs).ownsRow base e size v n (setsL xs o vs)
 |[],_,_,_,h,_=>h
 |u::r,xs,o,w,h,hb=>own_setCells r (xs.set o u) (o+1) (w.setCell ⟨b,o,none⟩ u) (yh h hb o u) hb
theorem keeps_setCells {a:World} {b:Nat} (hb:a.heap.size≤b):∀(vs:List Value) (o:Nat) (w:World),ai a w []→ai a (w.setCells b o vs) []
 |[],_,_,h=>h
 |u::r,o,w,h=>keeps_setCells hb r (o+1) (w.setCell ⟨b,o,none⟩ u) (h.setCell (.inr hb) u)
theorem own_drewN {w:World} {base size n:Nat} {e:TypeId} {v:Value} {xs:List Value} (h:w.ownsRow base e size v n xs) (q:Nat):(w.drewN q).ownsRow base e size v n xs:=au h ((ai.refl w []).drewN q) (by simp)
theorem reverse_own (a0:World) (zs:List Int) (v:Value) (w:World) (hk:ai a0 w []) (h:w.ownsRow a0.heap.size 3 1 v zs.length (zs.map (Value.int .i64))) (hn:zs.length≤100000):
  Calls Tryz.prog 127 #[v] w fun e w'=>e= .returned (.tuple #[])∧w'.ownsRow a0.heap.size 3 1 v zs.length (zs.reverse.map (Value.int .i64))∧ai a0 w' []:=by
 obtain⟨va,vc,rfl,hvc1,hvc2⟩:=cr h;by_cases h0:zs.length=0
 ·have hz:zs=[]:=List.eq_nil_of_length_eq_zero h0;subst hz;exact(show Calls Tryz.prog 127 #[.slice va 0 vc] w fun e w'=>e= .returned (.tuple #[])∧w'=w from Any.slices_Reverse_int_empty Tryz.laysRev va vc w).mono fun _ _ h9=>⟨h9.1,by rw[h9.2];exact h,by rw[h9.2];exact hk⟩
 ·obtain⟨g,cap,e1,hg,hgo,-,-,-,hc,hf⟩:=zl h (by omega);simp only[Value.slice.injEq]at e1;obtain⟨rfl,-,rfl⟩:=e1;refine(show Calls Tryz.prog 127 #[.slice (some ⟨g,0,none⟩) zs.length vc] w fun e w'=>e= .returned (.tuple #[])∧∃q,w'=(w.drewN q).setCells g 0 ((zs.take zs.length).reverse.map (Value.int .i64))from Any.slices_Reverse_int_cells Tryz.laysRev g 0 zs.length vc zs w (Nat.le_refl _) (by omega) (fun j hj=> ?_) (fun j hj=>by rw[Nat.zero_add];exact hf j)).mono fun e w' h9=> ?_
  ·rw[Nat.zero_add,hc j (by omega),List.getElem?_map,List.getElem?_eq_getElem hj,List.getD,List.getElem?_eq_getElem hj];rfl
  ·obtain⟨rfl,q,rfl⟩:=h9;rw[List.take_length];refine⟨rfl, ?_,keeps_setCells hg _ _ _ (hk.drewN q)⟩;have h8:=own_setCells (zs.reverse.map (Value.int .i64)) _ 0 _ (own_drewN h q) hgo;rw[setsL_eq _ _ _ (by simp)]at h8;rw[List.take_zero,List.nil_append,List.drop_eq_nil_of_le (by simp),List.append_nil]at h8;exact h8
theorem own_grown {W W3:World} {b1 b2 s1 s2 n1 n2:Nat} {e1 e2:TypeId} {v1 v2:Value} {x1 x2:List Value} {o:Obj} (h:W.ownsRow b1 e1 s1 v1 n1 x1) (hr:W.ownsRow b2 e2 s2 v2 n2 x2) (hne:e1≠e2) (hg:(W.alloc o).grownBy W3 v2.ownBlock):W3.ownsRow b1 e1 s1 v1 n1 x1:=by
 refine World.ownsRow.kept (au h ((ai.refl W []).alloc _) (by simp)) hg ?_;cases e:v1.ownBlock with
 |none=>exact .inl rfl
 |some k=>exact .inr (fun e2=>xx h hr hne e e2.symm)
theorem xy {W W3:World} {b2 s2 n2 g:Nat} {e2 t:TypeId} {v2:Value} {x2:List Value} {cs:Array Value} {o:Obj} (h:Blk W g t cs) (hr:W.ownsRow b2 e2 s2 v2 n2 x2) (hne:e2≠t) (hg:(W.alloc o).grownBy W3 v2.ownBlock):Blk W3 g t cs:=by
 have k:ai W W3 v2.ownBlock.toList:=((ai.refl W _).alloc o).grown hg (fun k hk=> .inl (by rw[hk];simp));exact h.keep k (fun hm=>by rw[Option.mem_toList]at hm;exact own_ne hr h hne hm)
theorem ui {w0 W W3:World} {base s2 n2:Nat} {e2:TypeId} {v2:Value} {x2:List Value} {o:Obj} (hk:ai w0 W []) (hr:W.ownsRow base e2 s2 v2 n2 x2) (hb:w0.heap.size≤base) (hg:(W.alloc o).grownBy W3 v2.ownBlock):ai w0 W3 []:=
 (hk.alloc o).grown hg (fun k hk2=> .inr (by have:=(ig hr hk2).2;omega))
end Go.Proofs.YtjllbchfojonhaaGreatDoor
namespace Go.Proofs.YtjllbchfojonhaaGreatDoor
open Go.RowKit
def Au (b:Bool):List Value:=[.bool b]
def BitsAt (w:World) (v:Value) (l:List Bool):Prop:=Row w 1 v (l.map Au)
theorem Bj {w:World} {base n:Nat} {v:Value} {l:List Bool} (h:w.ownsRow base 4 1 v n (wm l)):BitsAt w v l:=by
 have:=om h;unfold wm at this;rw[List.map_map]at this;exact this
theorem uj {w:World} {base n:Nat} {v:Value} {l:List Int} (h:w.ownsRow base 3 1 v n (l.map (Value.int .i64))):bu w (v,l):=by
 have:=om h;rw[List.map_map]at this;exact this
theorem flat_bits (l:List Bool):(l.map Au).flatten=wm l:=by
 induction l with
 |nil=>rfl
 |cons x l ih=>rw[List.map_cons,List.flatten_cons,ih];rfl
theorem flat_ints (l:List Int):(l.map intCells).flatten=l.map (Value.int .i64):=by
 induction l with
 |nil=>rfl
 |cons x l ih=>rw[List.map_cons,List.flatten_cons,ih];rfl
theorem list_ne_at {α:Type} [Inhabited α] {l m:List α} {t:Nat} (h:¬l[t]! =m[t]!):¬l=m:=fun e=>h (by rw[e])
theorem Ca {α:Type} [Inhabited α] {l m:List α} (h0:l.length=m.length) (h:∀t,t<m.length→l[t]! =m[t]!):l=m:=by
 apply List.ext_getElem h0;intro i h1 h2;have:=h i h2
 rwa [getElem!_pos l i h1,getElem!_pos m i h2]at this
theorem equal_ints (va vb:Value) (p q:List Int) (w:World) (hp:Row w 1 va (p.map intCells)) (hq:Row w 1 vb (q.map intCells)):Calls Tryz.prog 125 #[va,vb] w fun e w'=>e= .returned (.bool (decide (p=q)))∧ai w w' []:=by
 obtain⟨a,ca,rfl,hl1,hm1,hc1⟩:=hp.open_;obtain⟨b,cb,rfl,hl2,hm2,hc2⟩:=hq.open_;have hna:p.length≤9223372036854775807:=(by unfold maxLen at hm1;omega);have hnb:q.length≤9223372036854775807:=(by unfold maxLen at hm2;omega);have Y1:=ag (fun(h0:p.length=q.length) (h:∀t,t<q.length→p[t]! =q[t]!)=>decide_eq_true (Ca h0 h));have N2:=ag (fun(h:¬p.length=q.length)=>decide_eq_false (p:=p=q) (fun e=>h (by rw[e])));have N3:=ag (fun t (h:¬p[t]! =q[t]!)=>decide_eq_false (p:=p=q) (list_ne_at h));generalize decide (p=q)=R at*;have HC1:=ag hc1;have HC2:=ag hc2;clear hc1 hc2 hp hq hl1 hl2 hm1 hm2;generalize hn1:p.length=n1 at*;generalize hn2:q.length=n2 at*;have HN1:=ag hn1;have HN2:=ag hn2;clear hn1 hn2;by_cases hl:n1=n2
 ·subst hl;go_enter Tryz.func125,Tryz.ntmps125;go_wp2;go_loopw [13] (fun i' wx=>∃j:Nat,j≤n1∧i'= .int .i64 j∧ai w wx []∧Hid (∀t,t<j→p[t]! =q[t]!)) (fun i' _=>n1 -(intOf i').toNat)
  case atStart=>exact⟨0,Nat.zero_le _,rfl,ai.refl _ _,fun t ht=>absurd ht (Nat.not_lt_zero _)⟩
  case round=>
   obtain⟨j,hj,rfl,hr,hno⟩:=hrel;have HNO:=ag hno.out;have HK:=ag hr;clear hno hr;by_cases hlt:j<n1
   ·have hltz:(j:Int)<(n1:Int):=(by omega);obtain⟨b1,o1,rfl,hb1,hcell1⟩:=HC1.o j (by first |exact hlt|(rw[HN1.o];exact hlt));obtain⟨b2,o2,rfl,hb2,hcell2⟩:=HC2.o j (by first |exact hlt|(rw[HN2.o];exact hlt));have y1:=HK.o.cellOf (hcell1 0 _ rfl);have y2:=HK.o.cellOf (hcell2 0 _ rfl);simp only[Nat.mul_one,Nat.add_zero]at y1 y2;clear hcell1 hcell2 HC1 HC2;generalize hz1:p[j]! =z1 at y1;generalize hz2:q[j]! =z2 at y2;have HZ1:=ag hz1;have HZ2:=ag hz2;clear hz1 hz2;by_cases hz:z1=z2
    ·subst hz;go_wp2;go_quiet (fail)
     generalize hQ:wr.drewN _=Q at*;have KQ:ai wr Q []:=(by rw[←hQ];exact(ai.refl wr []).drewN _);have HKQ:=ag (HK.o.ak KQ);clear hQ KQ;go_wp2;go_roundw
     case rel=>exact⟨j+1,by omega,by go_num,HKQ.o,fun t ht=>by rcases Nat.lt_succ_iff_lt_or_eq.1 ht with h|h;exact HNO.o t h;rw[h,HZ1.o,HZ2.o]⟩
     case measure=>simp[intOf];omega
    ·have hzb:(z1==z2)=false:=(by simpa using hz);go_wp2;go_quiet (fail)
     generalize hQ:wr.drewN _=Q at*;have KQ:ai wr Q []:=(by rw[←hQ];exact(ai.refl wr []).drewN _);have HKQ:=ag (HK.o.ak KQ);clear hQ KQ;go_wp2;go_ret;exact⟨ay (N3.o j (by rw[HZ1.o,HZ2.o];exact hz)).symm,HKQ.o⟩
   ·have hltz:¬(j:Int)<(n1:Int):=(by omega);go_wp2;go_ret;exact⟨ay (Y1.o (by first |rfl|trivial) (fun t ht=>HNO.o t (by omega))).symm,HK.o⟩
 ·have hlb:((n1:Int)==(n2:Int))=false:=(by simp;omega);have hlz:¬(n1:Int)=(n2:Int):=(by omega);go_enter Tryz.func125,Tryz.ntmps125;go_wp2;go_ret;exact⟨ay (N2.o hl).symm,ai.refl _ _⟩
theorem equal_bits (va vb:Value) (p q:List Bool) (w:World) (hp:Row w 1 va (p.map Au)) (hq:Row w 1 vb (q.map Au)):Calls Tryz.prog 64 #[va,vb] w fun e w'=>e= .returned (.bool (decide (p=q)))∧ai w w' []:=by
 obtain⟨a,ca,rfl,hl1,hm1,hc1⟩:=hp.open_;obtain⟨b,cb,rfl,hl2,hm2,hc2⟩:=hq.open_;have hna:p.length≤9223372036854775807:=(by unfold maxLen at hm1;omega);have hnb:q.length≤9223372036854775807:=(by unfold maxLen at hm2;omega);have Y1:=ag (fun(h0:p.length=q.length) (h:∀t,t<q.length→p[t]! =q[t]!)=>decide_eq_true (Ca h0 h));have N2:=ag (fun(h:¬p.length=q.length)=>decide_eq_false (p:=p=q) (fun e=>h (by rw[e])));have N3:=ag (fun t (h:¬p[t]! =q[t]!)=>decide_eq_false (p:=p=q) (list_ne_at h));generalize decide (p=q)=R at*;have HC1:=ag hc1;have HC2:=ag hc2;clear hc1 hc2 hp hq hl1 hl2 hm1 hm2;generalize hn1:p.length=n1 at*;generalize hn2:q.length=n2 at*;have HN1:=ag hn1;have HN2:=ag hn2;clear hn1 hn2;by_cases hl:n1=n2
 ·subst hl;go_enter Tryz.func64,Tryz.ntmps64;go_wp2;go_loopw [13] (fun i' wx=>∃j:Nat,j≤n1∧i'= .int .i64 j∧ai w wx []∧Hid (∀t,t<j→p[t]! =q[t]!)) (fun i' _=>n1 -(intOf i').toNat)
  case atStart=>exact⟨0,Nat.zero_le _,rfl,ai.refl _ _,fun t ht=>absurd ht (Nat.not_lt_zero _)⟩
  case round=>
   obtain⟨j,hj,rfl,hr,hno⟩:=hrel;have HNO:=ag hno.out;have HK:=ag hr;clear hno hr;by_cases hlt:j<n1
   ·have hltz:(j:Int)<(n1:Int):=(by omega);obtain⟨b1,o1,rfl,hb1,hcell1⟩:=HC1.o j (by first |exact hlt|(rw[HN1.o];exact hlt));obtain⟨b2,o2,rfl,hb2,hcell2⟩:=HC2.o j (by first |exact hlt|(rw[HN2.o];exact hlt));have y1:=HK.o.cellOf (hcell1 0 _ rfl);have y2:=HK.o.cellOf (hcell2 0 _ rfl);simp only[Nat.mul_one,Nat.add_zero]at y1 y2;clear hcell1 hcell2 HC1 HC2;generalize hz1:p[j]! =z1 at y1;generalize hz2:q[j]! =z2 at y2;have HZ1:=ag hz1;have HZ2:=ag hz2;clear hz1 hz2;cases z1
    ·cases z2
     ·go_wp2;go_quiet (fail)
      generalize hQ:wr.drewN _=Q at*;have KQ:ai wr Q []:=(by rw[←hQ];exact(ai.refl wr []).drewN _);have HKQ:=ag (HK.o.ak KQ);clear hQ KQ;go_wp2;go_roundw
      case rel=>exact⟨j+1,by omega,by go_num,HKQ.o,fun t ht=>by rcases Nat.lt_succ_iff_lt_or_eq.1 ht with h|h;exact HNO.o t h;rw[h,HZ1.o,HZ2.o]⟩
      case measure=>simp[intOf];omega
     ·go_wp2;go_quiet (fail)
      generalize hQ:wr.drewN _=Q at*;have KQ:ai wr Q []:=(by rw[←hQ];exact(ai.refl wr []).drewN _);have HKQ:=ag (HK.o.ak KQ);clear hQ KQ;go_wp2;go_ret;exact⟨ay (N3.o j (by rw[HZ1.o,HZ2.o];decide)).symm,HKQ.o⟩
    ·cases z2
     ·go_wp2;go_quiet (fail)
      generalize hQ:wr.drewN _=Q at*;have KQ:ai wr Q []:=(by rw[←hQ];exact(ai.refl wr []).drewN _);have HKQ:=ag (HK.o.ak KQ);clear hQ KQ;go_wp2;go_ret;exact⟨ay (N3.o j (by rw[HZ1.o,HZ2.o];decide)).symm,HKQ.o⟩
     ·go_wp2;go_quiet (fail)
      generalize hQ:wr.drewN _=Q at*;have KQ:ai wr Q []:=(by rw[←hQ];exact(ai.refl wr []).drewN _);have HKQ:=ag (HK.o.ak KQ);clear hQ KQ;go_wp2;go_roundw
      case rel=>exact⟨j+1,by omega,by go_num,HKQ.o,fun t ht=>by rcases Nat.lt_succ_iff_lt_or_eq.1 ht with h|h;exact HNO.o t h;rw[h,HZ1.o,HZ2.o]⟩
      case measure=>simp[intOf];omega
   ·have hltz:¬(j:Int)<(n1:Int):=(by omega);go_wp2;go_ret;exact⟨ay (Y1.o (by first |rfl|trivial) (fun t ht=>HNO.o t (by omega))).symm,HK.o⟩
 ·have hlb:((n1:Int)==(n2:Int))=false:=(by simp;omega);have hlz:¬(n1:Int)=(n2:Int):=(by omega);go_enter Tryz.func64,Tryz.ntmps64;go_wp2;go_ret;exact⟨ay (N2.o hl).symm,ai.refl _ _⟩
theorem info4c:(Tryz.prog.info? 4).map (fun i=>(i.zero,i.size,i.bytes))=some (some (.bool false),1,1):=by kernel_rfl
theorem clone_bits (v:Value) (l:List Bool) (w:World) (hp:Row w 1 v (l.map Au)) (hm:l.length≤100000):Calls Tryz.prog 65 #[v] w fun e w'=>(∃v',e= .returned v'∧w'.ownsRow w.heap.size 4 1 v' l.length (wm l))∧ai w w' []:=by
 obtain⟨i0,hi,he⟩:=Option.map_eq_some_iff.1 info4c;simp only[Prod.mk.injEq]at he;obtain⟨hz0,hz1,hz2⟩:=he;have HP:=ag hp;obtain⟨a,ca,rfl,hl1,hm1,hc1⟩:=hp.open_;clear hp hl1 hm1;have HFL:=ag (flat_bits l);cases a with
 |none=>
  have hn:l.length=0:=(by rcases Nat.eq_zero_or_pos l.length with h|h;exact h;(obtain⟨b,off,e,_⟩:=hc1 0 h;cases e));obtain rfl:l=[]:=List.eq_nil_of_length_eq_zero hn;clear hc1 hn HP HFL hm;rw[show([]:List Bool).length=0 from rfl];have hx:∀w,Sem.run Tryz.prog (binOp BinOp.eql 39 (.slice none 0 ca) (.slice none 0 0)) w= .ok (.bool true) w:=(by intro w;rfl);go_enter Tryz.func65,Tryz.ntmps65;go_wp2;go_ret;exact⟨⟨_,rfl,World.ownsRow_nil _ _ _ _⟩,ai.refl _ _⟩
 |some ad=>
  have hx:∀w,Sem.run Tryz.prog (binOp BinOp.eql 39 (.slice (some ad) l.length ca) (.slice none 0 0)) w= .ok (.bool false) w:=(by intro w;rfl);have HLE:=ag (show(l.map Au).length=l.length from List.length_map ..);clear hc1;go_enter Tryz.func65,Tryz.ntmps65;go_wp2_with (first |(at_builtin;go_must(refine jr rfl (.tmp 5) (.tmp 6) 39 rfl w.heap.size 4 i0 (.bool false) 1 1 Tryz.underlying39 hi hz0 hz1 hz2 rfl (by decide) (.slice (some ⟨w.heap.size,0,none⟩) 0 0) 0 [] rfl (own_empty (Blk.new w 4 #[])) (.slice (some ad) l.length ca) (l.map Au) rfl (Row.keep HP.o ((ai.refl w []).alloc _)) (fun e he=>by obtain⟨x,_,rfl⟩:=List.mem_map.1 he;rfl) (fun e he u hu=>by obtain⟨x,_,rfl⟩:=List.mem_map.1 he;rw[List.mem_singleton.1 hu];rfl) (by rw[List.length_map];unfold maxLen;omega) (by rw[List.length_map];omega) (by rw[jh];omega) ?_);intro v1 w4 hown hgrow;have k3:=ag (((ai.refl w []).alloc (.cells #[] 4)).grown hgrow (fun k hk=>by simp[Value.ownBlock]at hk;exact .inr (by omega)));have OB:=ag hown;clear hown hgrow))
  go_ret;exact⟨⟨_,rfl,by have h9:=OB.o;rw[Nat.zero_add,HLE.o,List.nil_append,HFL.o]at h9;exact h9⟩,k3.out⟩
theorem info3c:(Tryz.prog.info? 3).map (fun i=>(i.zero,i.size,i.bytes))=some (some (.int .i64 0),1,8):=by kernel_rfl
theorem mq (v:Value) (l:List Int) (w:World) (hp:Row w 1 v (l.map intCells)) (hm:l.length≤100000):Calls Tryz.prog 36 #[v] w fun e w'=>(∃v',e= .returned v'∧w'.ownsRow w.heap.size 3 1 v' l.length (l.map (Value.int .i64)))∧ai w w' []:=by
 obtain⟨i0,hi,he⟩:=Option.map_eq_some_iff.1 info3c;simp only[Prod.mk.injEq]at he;obtain⟨hz0,hz1,hz2⟩:=he;have HP:=ag hp;obtain⟨a,ca,rfl,hl1,hm1,hc1⟩:=hp.open_;clear hp hl1 hm1;have HFL:=ag (flat_ints l);cases a with
 |none=>
  have hn:l.length=0:=(by rcases Nat.eq_zero_or_pos l.length with h|h;exact h;(obtain⟨b,off,e,_⟩:=hc1 0 h;cases e));obtain rfl:l=[]:=List.eq_nil_of_length_eq_zero hn;clear hc1 hn HP HFL hm;rw[show([]:List Int).length=0 from rfl];have hx:∀w,Sem.run Tryz.prog (binOp BinOp.eql 23 (.slice none 0 ca) (.slice none 0 0)) w= .ok (.bool true) w:=(by intro w;rfl);go_enter Tryz.func36,Tryz.ntmps36;go_wp2;go_ret;exact⟨⟨_,rfl,World.ownsRow_nil _ _ _ _⟩,ai.refl _ _⟩
 |some ad=>
  have hx:∀w,Sem.run Tryz.prog (binOp BinOp.eql 23 (.slice (some ad) l.length ca) (.slice none 0 0)) w= .ok (.bool false) w:=(by intro w;rfl);have HLE:=ag (show(l.map intCells).length=l.length from List.length_map ..);clear hc1;go_enter Tryz.func36,Tryz.ntmps36;go_wp2_with (first |(at_builtin;go_must(refine jr rfl (.tmp 5) (.tmp 6) 23 rfl w.heap.size 3 i0 (.int .i64 0) 1 8 Tryz.underlying23 hi hz0 hz1 hz2 rfl (by decide) (.slice (some ⟨w.heap.size,0,none⟩) 0 0) 0 [] rfl (own_empty (Blk.new w 3 #[])) (.slice (some ad) l.length ca) (l.map intCells) rfl (Row.keep HP.o ((ai.refl w []).alloc _)) (fun e he=>by obtain⟨x,_,rfl⟩:=List.mem_map.1 he;rfl) (fun e he u hu=>by obtain⟨x,_,rfl⟩:=List.mem_map.1 he;rw[List.mem_singleton.1 hu];rfl) (by rw[List.length_map];unfold maxLen;omega) (by rw[List.length_map];omega) (by rw[jh];omega) ?_);intro v1 w4 hown hgrow;have k3:=ag (((ai.refl w []).alloc (.cells #[] 3)).grown hgrow (fun k hk=>by simp[Value.ownBlock]at hk;exact .inr (by omega)));have OB:=ag hown;clear hown hgrow))
  go_ret;exact⟨⟨_,rfl,by have h9:=OB.o;rw[Nat.zero_add,HLE.o,List.nil_append,HFL.o]at h9;exact h9⟩,k3.out⟩
theorem same_any (c d:dn) (w:World) (hc:bu w c.args) (hd:bu w d.args):Calls Tryz.prog 99 #[.agg #[.int .i64 c.op,c.args.1],.agg #[.int .i64 d.op,d.args.1]] w fun e w'=>e= .returned (.bool (ko c d))∧ai w w' []:=by
 obtain⟨a,ca,e1,-,-,-⟩:=Row.open_ (M:=Int) (cells:=intCells) hc;obtain⟨b,cb,e2,-,-,-⟩:=Row.open_ (M:=Int) (cells:=intCells) hd;have CE:=ag (fun W (h1:bu W c.args) (h2:bu W d.args)=>equal_ints _ _ _ _ W h1 h2);have HC:=ag hc;have HD:=ag hd;rw[e1,e2]at CE;rw[e1,e2];clear e1 e2 hc hd;have HS:=ag (show ko c d=((c.op==d.op)&&decide (c.args.2=d.args.2))from rfl);generalize ko c d=R at*;generalize decide (c.args.2=d.args.2)=E at*;generalize c.args.2.length=n1 at*;generalize d.args.2.length=n2 at*;generalize c.op=co at*;generalize d.op=dd at*;have hk0:ai w (w.alloc (.cells #[.int .i64 co,.slice a n1 ca] 49)) []:=(ai.refl _ []).alloc _;have bb0:=Blk.new w 49 #[.int .i64 co,.slice a n1 ca];have hk1:ai (w.alloc (.cells #[.int .i64 co,.slice a n1 ca] 49)) ((w.alloc (.cells #[.int .i64 co,.slice a n1 ca] 49)).alloc (.cells #[.int .i64 dd,.slice b n2 cb] 49)) []:=(ai.refl _ []).alloc _;have bb1:=Blk.new (w.alloc (.cells #[.int .i64 co,.slice a n1 ca] 49)) 49 #[.int .i64 dd,.slice b n2 cb];rw[show(w.alloc (.cells #[.int .i64 co,.slice a n1 ca] 49)).heap.size=w.heap.size+1 by show(Array.push _ _).size=_;simp[Array.size_push]]at bb1;have Bl:=ag (bb0.keep hk1 (by simp));have Bm:=ag bb1;have HK:=ag (hk0.ak hk1);obtain⟨l0,l1⟩:=Bl.o.c2;obtain⟨m0,m1⟩:=Bm.o.c2;simp at l0 l1 m0 m1;clear hk0 hk1 bb0 bb1;by_cases ho:co=dd
 ·subst ho;cases E
  ·go_enter Tryz.func99,Tryz.ntmps99;go_wp2_with (first |(go_at_call 125;refine(CE.o _ (Row.keep HC.o HK.o) (Row.keep HD.o HK.o)).mono ?_;rintro e w3 ⟨rfl,k3⟩;clear l0 l1 m0 m1;replace Bl:=Bl.kb k3;replace Bm:=Bm.kb k3;replace HK:=HK.kt k3;obtain⟨l0,l1⟩:=Bl.o.c2;obtain⟨m0,m1⟩:=Bm.o.c2;simp at l0 l1 m0 m1;clear k3))
   go_ret;exact⟨ay (by rw[HS.o];simp),HK.o⟩
  ·go_enter Tryz.func99,Tryz.ntmps99;go_wp2_with (first |(go_at_call 125;refine(CE.o _ (Row.keep HC.o HK.o) (Row.keep HD.o HK.o)).mono ?_;rintro e w3 ⟨rfl,k3⟩;clear l0 l1 m0 m1;replace Bl:=Bl.kb k3;replace Bm:=Bm.kb k3;replace HK:=HK.kt k3;obtain⟨l0,l1⟩:=Bl.o.c2;obtain⟨m0,m1⟩:=Bm.o.c2;simp at l0 l1 m0 m1;clear k3))
   go_ret;exact⟨ay (by rw[HS.o];simp),HK.o⟩
 ·have hob:(co==dd)=false:=(by simpa using ho);go_enter Tryz.func99,Tryz.ntmps99;go_wp2;go_ret;exact⟨ay (by rw[HS.o,hob];rfl),HK.o⟩
theorem index_checks (c:dn) (v:Value) (l:List dn) (w:World) (hc:bu w c.args) (hq:Row w 2 v (l.map dn.cells)) (hla:∀d∈l,bu w d.args):
 Calls Tryz.prog 106 #[v,.func (.func 99) #[.agg #[.int .i64 c.op,c.args.1]] #[]] w fun e w'=>e= .returned (.int .i64 (Lib.idxBy (fun _ y=>ko c y) l default))∧ai w w' []:=by
 obtain⟨a,cap,rfl,hl,hm,hc0⟩:=hq.open_;obtain⟨n,hn⟩:∃n,l.length=n:=⟨_,rfl⟩;have HC:=ag hc0;rw[hn]at hl ⊢;have HN:=ag hn;have HP:=ag (fun(W:World) (k:Nat) (hk:k<l.length) (h:ai w W [])=>same_any c l[k]! W (Row.keep hc h) (Row.keep (hla _ (az hk)) h));have hnI:(n:Int)≤9223372036854775807:=(by unfold maxLen at hm;omega);clear hq hc0 hn hla hc;go_enter Tryz.func106,Tryz.ntmps106;go_wp2;go_loopw [5,8] (fun _ s8 wr=>∃kk:Nat,kk≤n∧s8= .int .i64 kk∧ai w wr []∧Hid (∀j,j<kk→ko c l[j]! =false)) (fun _ s8 _=>n -(intOf s8).toNat)
 case atStart=>exact⟨0,Nat.zero_le _,rfl,ai.refl w _,fun j hj=>absurd hj (Nat.not_lt_zero _)⟩
 case round=>
  obtain⟨kk,hkk,rfl,hk,A⟩:=hrel;have HK:=ag hk;clear hk;by_cases hlt:kk<n
  ·have hltz:(kk:Int)<(n:Int):=(by omega);have hlt':kk<l.length:=(by rw[HN.o];exact hlt);obtain⟨b,off,rfl,hb,hc⟩:=HC.o kk hlt';have hcall:=HP.o wr kk hlt' HK.o;clear HC HP;generalize hy:l[kk]! =y at hc hcall;have B:=ag hy;clear hy;have l0:=HK.o.cellOf (hc 0 _ rfl);have l1:=HK.o.cellOf (hc 1 _ rfl);simp only[Nat.add_zero]at l0;cases hq:ko c y with
   |true=>
    rw[hq]at hcall;have CC:=ag hcall;clear hcall hc;go_wp2_with (go_at_call 99;refine(CC.o).mono ?_;rintro e w' ⟨rfl,hb'⟩)
    go_ret;refine⟨?_,HK.o.ak hb'⟩;have h9:=Lib.idxBy_hit (fun _ y=>ko c y) l n kk default hlt (by rw[HN.o];omega) (by show ko c l[kk]! =true;rw[B.o];exact hq) A.o;rw[←HN.o,List.take_length]at h9;rw[h9];rfl
   |false=>
    rw[hq]at hcall;have CC:=ag hcall;clear hcall hc;go_wp2_with (go_at_call 99;refine(CC.o).mono ?_;rintro e w' ⟨rfl,hb'⟩)
    have HB:=ag hb';clear hb';go_roundw
    case rel=>
     refine⟨kk+1,by omega,by go_num,HK.o.ak HB.o,(show Hid _ from fun j hj=> ?_)⟩;by_cases e:j=kk
     ·subst e;rw[B.o];exact hq
     ·exact A.o j (by omega)
    case measure=>simp[intOf];omega
  ·have hltz:¬(kk:Int)<(n:Int):=(by omega);have:kk=n:=(by omega);subst this;go_wp2;go_ret;refine⟨?_,HK.o⟩;have h9:=Lib.idxBy_miss (fun _ y=>ko c y) l kk default A.o;rw[←HN.o,List.take_length]at h9;exact congrArg (fun z:Int=>Ending.returned (Value.int .i64 z)) h9.symm
theorem any_checks (c:dn) (v:Value) (l:List dn) (w:World) (hc:bu w c.args) (hq:Row w 2 v (l.map dn.cells)) (hla:∀d∈l,bu w d.args):
 Calls Tryz.prog 98 #[v,.func (.func 99) #[.agg #[.int .i64 c.op,c.args.1]] #[]] w fun e w'=>e= .returned (.bool (l.any (ko c)))∧ai w w' []:=by
 have C:=ag (index_checks c v l w hc hq hla);obtain⟨a,cap,rfl,_,_,_⟩:=hq.open_;have hx:=Lib.idxBy_nonneg_iff (fun _ y=>ko c y) l default;rw[←hx];generalize Lib.idxBy (fun _ y=>ko c y) l default=z at*;generalize l.length=n at*;clear hx hq hc hla;by_cases h0:0≤z
 all_goals
  go_enter Tryz.func98,Tryz.ntmps98;go_wp2_with (refine(C.o).mono ?_;rintro e w' ⟨rfl,k⟩;have K:=ag k;clear k)
  go_ret;exact⟨ay (by simp[h0]),K.o⟩
theorem number_any (c:dn) (L:Nat) (lv tv iv x0 x1 x2:Value) (l:List dn) (w:World) (hb:Blk w L 89 #[x0,x1,x2,lv,tv,iv]) (hc:bu w c.args) (hq:Row w 2 lv (l.map dn.cells)) (hla:∀d∈l,bu w d.args):
 Calls Tryz.prog 68 #[.pointer (some ⟨L,0,none⟩),.agg #[.int .i64 c.op,c.args.1]] w fun e w'=>e= .returned (.int .i64 (Lib.idxBy (fun _ y=>ko c y) l default))∧ai w w' []:=by
 have CI:=ag (fun W (h:ai w W [])=>index_checks c lv l W (Row.keep hc h) (hq.keep h) (fun d hd=>Row.keep (hla d hd) h));obtain⟨a,ca,e1,-,-,-⟩:=Row.open_ (M:=Int) (cells:=intCells) hc;obtain⟨b,cb,e2,-,-,-⟩:=hq.open_;rw[e1]at CI;rw[e1];subst e2;have HB:=ag hb;clear e1 hc hq hla hb;generalize c.args.2.length=n1 at*;generalize c.op=co at*;generalize l.length=n2 at*;have HF3:Hid (w.cell? ⟨L,3,none⟩=some (.slice b n2 cb)):=ag (by have h9:=HB.o.cell 3;simpa using h9);have hk0:ai w (w.alloc (.cells #[.int .i64 co,.slice a n1 ca] 49)) []:=(ai.refl _ []).alloc _;have bb0:=Blk.new w 49 #[.int .i64 co,.slice a n1 ca];have Bl:=ag bb0;have HK:=ag hk0;obtain⟨l0,l1⟩:=Bl.o.c2;simp at l0 l1;have f3:=HK.o.cellOf HF3.o;clear hk0 bb0;go_enter Tryz.func68,Tryz.ntmps68;go_upto_region 1 with(fail)
 clear l0 l1 f3;generalize(w.alloc (.cells #[.int .i64 co,.slice a n1 ca] 49))=W0 at*;have Bl_W0:=Bl;have TW0:=HK;clear HK;have HK:=ag (ai.refl W0 []);obtain⟨l0,l1⟩:=Bl.o.c2;simp at l0 l1;have f3:=(TW0.o.ak HK.o).cellOf HF3.o;refine wp_region_held_drew (S:=(fun w'=>w'.cell? ⟨w.heap.size,0,none⟩=some (.int .i64 co)∧w'.cell? ⟨w.heap.size,1,none⟩=some (.slice a n1 ca)∧w'.cell? ⟨L,3,none⟩=some (.slice b n2 cb))) (by kernel_rfl) ?ahSs (fun ah=> ?_)
 case ahSs=>exact⟨l0,l1,f3⟩
 clear l0 l1 f3;replace Bl:=ag (Bl.o.keep ((ai.refl _ []).drew) (by simp));replace HK:=ag (HK.o.drew);generalize World.drew _=X0 at*;obtain⟨l0,l1⟩:=Bl.o.c2;simp at l0 l1;have f3:=(TW0.o.ak HK.o).cellOf HF3.o;refine tp 0 5 rfl ah ?_;refine tp 1 6 rfl ah ?_;refine tp 2 7 rfl ah ?_;refine tp 3 8 rfl ah ?_;refine tp 4 9 rfl ah ?_;refine tp 5 10 rfl ah ?_;refine t1 6 fun K hK=> ?_;go_simp
 (with_reducible refine(CI.o _ (TW0.o.ak HK.o)).mono ?_)
 rintro e wx ⟨rfl,k3⟩;show K _ _;clear ah;clear l0 l1 f3;replace Bl:=Bl.kb k3;replace HK:=HK.kt k3;obtain⟨l0,l1⟩:=Bl.o.c2;simp at l0 l1;have f3:=(TW0.o.ak HK.o).cellOf HF3.o;clear k3;refine hK.out _ _ (by exact⟨l0,l1,f3⟩) fun ah=> ?_;clear hK K;try simp only[Act.put,sA,sB,sC]
 refine tp 7 4 rfl ah ?_;refine wpAnyH_done (by kernel_rfl) ?_ _;clear ah;go_wp2;go_ret;exact⟨rfl,(TW0.o.ak HK.o)⟩
end Go.Proofs.YtjllbchfojonhaaGreatDoor
