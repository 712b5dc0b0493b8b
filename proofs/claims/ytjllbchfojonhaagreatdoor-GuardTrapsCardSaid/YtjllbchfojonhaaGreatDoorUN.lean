/- A map from strings to numbers that a call makes: each string that lies there lies with 1. ; Package print: unlike; contract. ; Package print: names; contract. -/
import Derived.Test.YtjllbchfojonhaaGreatDoorB1
import Derived.MapKept
import Derived.Test.YtjllbchfojonhaaGreatDoorShape
import Derived.Test.YtjllbchfojonhaaGreatDoorB2
set_option linter.unusedVariables false
set_option linter.unusedSimpArgs false
set_option maxRecDepth 100000
set_option maxHeartbeats 200000000
namespace Go.Proofs.YtjllbchfojonhaaGreatDoor
open Go.RowKit
open Go.MapKept (run_findKey heap_set IsKey findNow_spec)
def entriesOf (es:Array MapEntry) (c:Nat) (l:List ByteArray):Prop:=
 (∀e∈es.toList,(∃x,x∈l∧e.key= .string x)∧e.val= .int .i64 1∧e.born<c)∧∀x∈l,∃e∈es.toList,e.key= .string x
def MapOf (w:World) (b:Nat) (l:List ByteArray):Prop:=∃es c,w.heap[b]? =some (.map es c)∧entriesOf es c l
def World.setObj (w:World) (b:Nat) (o:Obj):World:={w with heap:=w.heap.setIfInBounds b o}
theorem keeps_setObj (w:World) (b:Nat) (o:Obj):ai w (World.setObj w b o) [b]:=
 ⟨rfl, rfl, rfl, by simp [World.setObj], fun k hk hn => by
  simp at hn
  simp[World.setObj,Ne.symm hn]⟩
theorem MapOf.keep {w w':World} {b:Nat} {l:List ByteArray} {S:List Nat} (h:MapOf w b l) (k:ai w w' S) (hb:b∉S):MapOf w' b l:=by
 obtain⟨es,c,h1,h2⟩:=h;exact⟨es,c,(k.block b (Array.getElem?_eq_some_iff.1 h1).1 hb).trans h1,h2⟩
theorem MapOf.new (w:World):MapOf (w.alloc (.map #[] 0)) w.heap.size []:=⟨#[],0,heap_alloc_new w _,by constructor<;>simp⟩
theorem entries_keys {es:Array MapEntry} {c:Nat} {l:List ByteArray} (h:entriesOf es c l):∀x∈es.toList,IsKey .string x.key:=fun e he=>by
 obtain⟨⟨x,_,hx⟩,_⟩:=h.1 e he;rw[hx];exact True.intro
theorem entries_no {es:Array MapEntry} {c:Nat} {l:List ByteArray} {s:ByteArray} (h:entriesOf es c l) (hs:s∉l):Instr.findNow .string (.string s) es.toList 0=some none:=by
 rcases findNow_spec (d:= .string) (k:= .string s) True.intro es.toList 0 (entries_keys h)with⟨h1,_⟩|⟨j,e,h1,h2,h3⟩
 ·exact h1
 ·obtain⟨⟨x,hx,h4⟩,_⟩:=h.1 e (List.mem_of_getElem? h2);rw[h3]at h4
  injection h4 with h4
  exact absurd (h4▸hx) hs
theorem entries_yes {es:Array MapEntry} {c:Nat} {l:List ByteArray} {s:ByteArray} (h:entriesOf es c l) (hs:s∈l):∃j e,Instr.findNow .string (.string s) es.toList 0=some (some (j,.int .i64 1))∧es.toList[j]? =some e∧e.key= .string s:=by
 rcases findNow_spec (d:= .string) (k:= .string s) True.intro es.toList 0 (entries_keys h)with⟨_,h2⟩|⟨j,e,h1,h2,h3⟩
 ·obtain⟨e,he,hk⟩:=h.2 s hs;exact absurd hk (h2 e he)
 ·obtain⟨_,hv,_⟩:=h.1 e (List.mem_of_getElem? h2);rw[hv]at h1;refine⟨j,e,by simpa using h1,h2,h3⟩
section
variable {P:Program} {T K E:TypeId} (hT:P.underlying T=some (.map K E)) (hK:P.underlying K=some .string) (hz:∀w,(zeroValue E).run P w= .ok (.int .i64 0) w)
include hT hK
theorem look_yes {w:World} {b:Nat} {l:List ByteArray} {s:ByteArray} (h:MapOf w b l) (hs:s∈l):(Instr.lookup T (.map (some b)) (.string s) false).run P w= .ok (.int .i64 1) w:=by
 obtain⟨es,c,hb,he⟩:=h;obtain⟨j,e,hf,_,_⟩:=entries_yes he hs;have hk:∀w,(Instr.findKey K (.string s) es.toList).run P w= .ok (some (j,.int .i64 1)) w:=fun w=>run_findKey hK hf;have hc:∀e w,(Instr.checkKey e 10000 K (.string s)).run P w= .ok () w:=fun e w=>Go.MapKept.run_checkKey hK (by simp[IsKey]) e 9999;unfold Instr.lookup;simp only[Sem.run_bind,run_underlying hT,Result.andThen_ok,Go.MapKept.run_getObj_map (P:=P) hb,Sem.run_pure,hc,hk];rfl
include hz in
theorem look_no {w:World} {b:Nat} {l:List ByteArray} {s:ByteArray} (h:MapOf w b l) (hs:s∉l):(Instr.lookup T (.map (some b)) (.string s) false).run P w= .ok (.int .i64 0) w:=by
 obtain⟨es,c,hb,he⟩:=h;have hf:=entries_no he hs;have hk:∀w,(Instr.findKey K (.string s) es.toList).run P w= .ok none w:=fun w=>run_findKey hK hf;have hc:∀e w,(Instr.checkKey e 10000 K (.string s)).run P w= .ok () w:=fun e w=>Go.MapKept.run_checkKey hK (by simp[IsKey]) e 9999;unfold Instr.lookup;simp only[Sem.run_bind,run_underlying hT,Result.andThen_ok,Go.MapKept.run_getObj_map (P:=P) hb,Sem.run_pure,hc,hk,hz];rfl
theorem put_any {w:World} {b:Nat} {l:List ByteArray} (s:ByteArray) (h:MapOf w b l):∃w',(Instr.mapUpdate T (.map (some b)) (.string s) (.int .i64 1)).run P w= .ok () w'∧MapOf w' b (l++[s])∧ai w w' [b]:=by
 obtain⟨es,c,hb,he⟩:=h;have hc:∀e w,(Instr.checkKey e 10000 K (.string s)).run P w= .ok () w:=fun e w=>Go.MapKept.run_checkKey hK (by simp[IsKey]) e 9999;by_cases hs:s∈l
 ·obtain⟨j,e,hf,hj,hek⟩:=entries_yes he hs;have hk:∀w,(Instr.findKey K (.string s) es.toList).run P w= .ok (some (j,.int .i64 1)) w:=fun w=>run_findKey hK hf;rw[Array.getElem?_toList]at hj;have hkey:((es[j]?).map (·.key)).getD (.string s)= .string s:=by rw[hj];exact hek
  have hst:∀w,(Instr.keyThatStays (.string s) (.string s)).run P w= .ok (.string s) w:=fun w=>by
   have:Instr.sameBits 10000 (.string s) (.string s)=true:=by
    show(s==s)=true;exact(Go.MapKept.bytes_beq s s).2 rfl
   simp[Instr.keyThatStays,this]
  have hmod:es.modify j (fun e=>{e with key:= .string s,val:= .int .i64 1})=es:=by
   apply Array.ext_getElem?;intro i;rw[Array.getElem?_modify];split
   ·rename_i hij;subst hij;rw[hj];obtain⟨k,v,bn⟩:=e;have hv:=(he.1 _ (List.mem_of_getElem? (by rw[Array.getElem?_toList];exact hj))).2.1;simp only at hek hv;subst hek hv;rfl
   ·rfl
  refine⟨World.setObj w b (.map es c), ?_,⟨es,c,(heap_set hb).1, ?_, ?_⟩,keeps_setObj _ _ _⟩
  ·unfold Instr.mapUpdate;simp only[Sem.run_bind,run_underlying hT,Result.andThen_ok,Go.MapKept.run_getObj_map (P:=P) hb,hc,hk,hkey,hst,hmod,Go.MapKept.run_setObj_map (P:=P) _ hb];rfl
  ·intro e' hm;obtain⟨⟨x,hx,h1⟩,h2⟩:=he.1 e' hm;exact⟨⟨x,by simp[hx],h1⟩,h2⟩
  ·intro x hx;simp at hx;rcases hx with hx|rfl
   ·exact he.2 x hx
   ·exact he.2 x hs
 ·have hf:=entries_no he hs;have hk:∀w,(Instr.findKey K (.string s) es.toList).run P w= .ok none w:=fun w=>run_findKey hK hf;refine⟨World.setObj w b (.map (es.push ⟨.string s,.int .i64 1,c⟩) (c+1)), ?_,⟨_,_,(heap_set hb).1, ?_, ?_⟩,keeps_setObj _ _ _⟩
  ·unfold Instr.mapUpdate;simp only[Sem.run_bind,run_underlying hT,Result.andThen_ok,Go.MapKept.run_getObj_map (P:=P) hb,hc,hk,Go.MapKept.run_setObj_map (P:=P) _ hb];rfl
  ·intro e hm;simp only[Array.toList_push,List.mem_append,List.mem_singleton]at hm;rcases hm with hm|rfl
   ·obtain⟨⟨x,hx,h1⟩,h2,h3⟩:=he.1 e hm;exact⟨⟨x,by simp[hx],h1⟩,h2,by omega⟩
   ·exact⟨⟨s,by simp,rfl⟩,rfl,by simp⟩
  ·intro x hx;simp at hx;rcases hx with hx|rfl
   ·obtain⟨e,hm,h1⟩:=he.2 x hx;exact⟨e,by simp[hm],h1⟩
   ·exact⟨⟨.string x,.int .i64 1,c⟩,by simp,rfl⟩
end
end Go.Proofs.YtjllbchfojonhaaGreatDoor
namespace Go.Proofs.YtjllbchfojonhaaGreatDoor
open Go.RowKit
def strCells (s:ByteArray):List Value:=[.string s]
def okN (l:List ByteArray) (k:Nat):Bool:=wy l[k]! &&Cx k fun j=> !decide (l[j]! =l[k]!)
theorem okN_in {l:List ByteArray} {k:Nat} (hk:k≤l.length) (h:l[k]! ∈l.take k):okN l k=false:=by
 obtain⟨j,hj,e⟩:=(take_mem hk).1 h;unfold okN;rw[wh hj (by rw[decide_eq_true e];rfl),Bool.and_false]
theorem okN_out {l:List ByteArray} {k:Nat} (hk:k≤l.length) (h0:wy l[k]! =true) (h:¬l[k]! ∈l.take k):okN l k=true:=by
 unfold okN;rw[h0,Bool.true_and];exact qh fun j hj=>by rw[decide_eq_false (fun e=>h ((take_mem hk).2 ⟨j,hj,e⟩))];rfl
theorem ty107:Tryz.prog.underlying 199=some (.map 9 3):=Tryz.underlying199
theorem zero3 (w:World):(zeroValue 3).run Tryz.prog w= .ok (.int .i64 0) w:=by kernel_rfl
theorem unlike_any (v:Value) (l:List ByteArray) (w:World) (ht:Tabs w) (hv:Row w 1 v (l.map strCells)) (hs:∀s∈l,s.size≤maxLen):Calls Tryz.prog 115 #[v] w fun e w'=>e= .returned (.bool (si l))∧ai w w' []:=by
 obtain⟨a,cap,rfl,hl,hm,hc⟩:=hv.open_;obtain⟨n,hn⟩:∃n,l.length=n:=⟨_,rfl⟩;have HC:=ag hc;have HT:=ag ht;have HS:=ag hs;rw[hn]at hl ⊢;have HN:=ag hn;have hnI:(n:Int)≤9223372036854775807:=(by unfold maxLen at hm;omega);have HB:=ag (show si l=Cx n (okN l) by unfold si;rw[hn];rfl);have hmm:= @run_makeMap Tryz.prog;have h0:=ag (MapOf.new w);have hk0:=ag ((ai.refl w []).alloc (.map #[] 0));clear hc hv ht hs hn;generalize si l=U at*;go_enter Tryz.func115,Tryz.ntmps115;go_wp2;generalize w.alloc (.map #[] 0)=W0 at*;obtain⟨b,hb⟩:∃b,w.heap.size=b:=⟨_,rfl⟩;have HBb:=ag hb;rw[hb]at h0;simp only[hb];clear hb;go_loopw [9] (fun i wr=>∃k:Nat,k≤n∧i= .int .i64 k∧Hid (MapOf wr b (l.take k))∧ai w wr []∧Hid (∀j,j<k→okN l j=true)) (fun i _=>n -(intOf i).toNat)
 case atStart=>exact⟨0,Nat.zero_le _,rfl,(by simpa using h0),hk0.out,fun j hj=>absurd hj (Nat.not_lt_zero _)⟩
 case round=>
  obtain⟨k,hk,rfl,HM,hK,A⟩:=hrel;have HK:=ag hK;clear hK h0 hk0;by_cases hlt:k<n
  ·have hltz:(k:Int)<(n:Int):=(by omega);obtain⟨bb,off,rfl,hbl,hcell⟩:=HC.o k (by rw[HN.o];exact hlt);have l0:=HK.o.cellOf (hcell 0 _ rfl);simp only[Nat.add_zero,Nat.mul_one]at l0;have hsz:=HS.o _ (az (l:=l) (k:=k) (by rw[HN.o];exact hlt));clear HC hcell
   have hsnoc:l.take (k+1)=l.take k++[l[k]!]:=by
    rw[List.take_succ_eq_append_getElem (by rw[HN.o];exact hlt),getElem!_pos l k (by rw[HN.o];exact hlt)]
   have HSn:=ag hsnoc;clear hsnoc;generalize hy:l[k]! =y at*;have HY:=ag hy;clear hy;have CN:=ag (name_any y wr (HT.o.keep HK.o) (by unfold maxLen at hsz;omega));cases hq:wy y with
   |false=>
    rw[hq]at CN;have HU:=ag (HB.o.trans (wh hlt (by unfold okN;rw[HY.o,hq];rfl)));clear hq;go_wp2_with (refine(CN.o).mono ?_;rintro e w2 ⟨rfl,k2⟩;have K2:=ag k2;clear k2)
    go_ret;exact⟨ay (by rw[HU.o]),HK.o.ak K2.o⟩
   |true=>
    rw[hq]at CN;by_cases hin:y∈l.take k
    ·have HU:=ag (HB.o.trans (wh hlt (okN_in (by rw[HN.o];omega) (by rw[HY.o];exact hin))));clear hq;have HIn:=ag hin;clear hin;go_wp2_with (refine(CN.o).mono ?_;rintro e w2 ⟨rfl,k2⟩;have hlook:=look_yes ty107 Tryz.underlying9 (HM.o.keep k2 (by simp)) HIn.o;have K2:=ag k2;clear k2)
     go_ret;exact⟨ay (by rw[HU.o]),HK.o.ak K2.o⟩
    ·have HIn:=ag hin;have HOk:=ag (okN_out (by rw[HN.o];omega) (by rw[HY.o];exact hq) (by rw[HY.o];exact hin));clear hq hin;go_wp2_with (refine(CN.o).mono ?_;rintro e w2 ⟨rfl,k2⟩;have hlook:=look_no ty107 Tryz.underlying9 zero3 (HM.o.keep k2 (by simp)) HIn.o;obtain⟨w3,hput,hm3,k3⟩:=put_any ty107 Tryz.underlying9 y (HM.o.keep k2 (by simp));have M3:=ag hm3;have K2:=ag (HK.o.ak k2);have K3:=ag (k3);clear k2 k3 hm3)
     go_roundw
     case rel=>
      refine⟨k+1,by omega,by go_num,(show Hid _ by rw[Hid];rw[HSn.o];exact M3.o), ?_,(show Hid _ from fun j hj=> ?_)⟩
      ·have:=K2.o.trans K3.o;exact this.mono (fun i hi=> .inr (by simp at hi;rw[hi,←HBb.o];exact Nat.le_refl _))
      ·by_cases e:j=k
       ·subst e;exact HOk.o
       ·exact A.o j (by omega)
     case measure=>simp[intOf];omega
  ·have hltz:¬(k:Int)<(n:Int):=(by omega);obtain rfl:k=n:=by omega
   have HU:=ag (HB.o.trans (qh A.o));go_wp2;go_ret;exact⟨ay (by rw[HU.o]),HK.o⟩
end Go.Proofs.YtjllbchfojonhaaGreatDoor
namespace Go.Proofs.YtjllbchfojonhaaGreatDoor
open Go.RowKit
theorem typeWord_no {t:Int} (h:¬(0≤t∧t≤2)):Dk t=⟨#[]⟩:=by
 unfold Dk;rw[if_neg (by omega),if_neg (by omega),if_neg (by omega)]
structure yu (f:ax):Prop where
 nv:f.nv≤100
 nb:f.nb≤40
 np:f.np≤20
 block:∀b∈f.blocks.2,b.phis.2.length≤1000∧b.insts.2.length≤1000
theorem names_any (f:ax) (w:World) (ht:Tabs w) (hf:cz w f) (hfew:yu f):Calls Tryz.prog 85 #[f.val] w fun e w'=>e= .returned (.bool (yf f))∧ai w w' []:=by
 obtain⟨a0,c0,e0,hl0,hm0,hc0⟩:=hf.vars.open_;obtain⟨a2,c2,e2,hl2,hm2,hc2⟩:=hf.blocks.open_;obtain⟨a1,c1,e1,hl1,hm1,hc1⟩:=(show Row w 1 f.params.1 (f.params.2.map intCells)from hf.params).open_;have hnv:=hfew.nv;have hnb:=hfew.nb;have hnp:=hfew.np;have HFN:=ag hf.names;have HBL:=ag hf.block;have HBN:=ag (fun b hb=>(hf.block b hb).size);have HT:=ag ht;have HC0:=ag hc0;have HC2:=ag hc2;have HC1:=ag hc1;have hval:f.val= .agg #[.slice a0 f.nv c0,.slice a1 f.np c1,.slice a2 f.nb c2]:=(by unfold ax.val ax.nv ax.np ax.nb;rw[e0,e1,e2]);rw[hval];obtain⟨nv,hnvE⟩:∃n,f.nv=n:=⟨_,rfl⟩;obtain⟨np,hnpE⟩:∃n,f.np=n:=⟨_,rfl⟩;obtain⟨nb,hnbE⟩:∃n,f.nb=n:=⟨_,rfl⟩;have hnvL:f.vars.2.length=nv:=hnvE;have hnpL:f.params.2.length=np:=hnpE;have hnbL:f.blocks.2.length=nb:=hnbE;have HB:=ag (show yf f=(f.vars.2.all Cj&&parB f.params.2&&decide (nv≤512)&&decide (np≤8∧np≤nv)&&decide (1≤nb)&&decide (nb≤64)&&si (yx f)&&si (xh f)) by unfold yf;rw[hnvE,hnpE,hnbE]);have HVN:=ag (show ∀s∈yx f,s.size≤maxLen from fun s hs=>by obtain⟨v,hv,rfl⟩:=List.mem_map.1 hs;exact HFN.o v hv);have HBM:=ag (show ∀s∈xh f,s.size≤maxLen from fun s hs=>by obtain⟨v,hv,rfl⟩:=List.mem_map.1 hs;exact HBN.o v hv);rw[hnvE,hnpE,hnbE];rw[hnvE]at hnv;rw[hnpE]at hnp;rw[hnbE]at hnb;have HNV:=ag hnvL;have HNP:=ag hnpL;have HNB:=ag hnbL;clear hval e0 e1 e2 hc0 hc1 hc2 hf ht hfew hnvE hnpE hnbE hnvL hnpL hnbL hl0 hl1 hl2 hm0 hm1 hm2;have hbox:=Blk.new w 26 #[.slice a0 nv c0,.slice a1 np c1,.slice a2 nb c2];have hk0:ai w (w.alloc (.cells #[.slice a0 nv c0,.slice a1 np c1,.slice a2 nb c2] 26)) []:=(ai.refl w []).alloc _;have l0:=hbox.cell 0;have l1:=hbox.cell 1;have l2:=hbox.cell 2;simp at l0 l1 l2;have BX:=ag hbox;have K0:=ag hk0;clear hbox hk0;obtain⟨i9,hi9,hz9,hs9,hb9⟩:=info_parts info9;generalize yf f=NB at*;go_enter Tryz.func85,Tryz.ntmps85;go_wp2;generalize w.alloc (.cells #[.slice a0 nv c0,.slice a1 np c1,.slice a2 nb c2] 26)=W0 at*;clear l0 l1 l2;go_loopw [3,14] (fun vv i wr=>∃k:Nat,k≤nv∧i= .int .i64 k∧ai W0 wr []∧wr.ownsRow W0.heap.size 9 1 vv k ((yx f).take k |>.map Value.string)∧Hid (∀j,j<k→Cj f.vars.2[j]! =true)) (fun _ i _=>nv -(intOf i).toNat)
 case atStart=>exact⟨0,Nat.zero_le _,rfl,ai.refl _ _,World.ownsRow_nil _ _ _ _,fun j hj=>absurd hj (Nat.not_lt_zero _)⟩
 case round=>
  obtain⟨k,hk,rfl,hK,hO,A⟩:=hrel;have HK:=ag hK;have HO:=ag hO;clear hK;by_cases hlt:k<nv
  ·have hltz:(k:Int)<(nv:Int):=(by omega);obtain⟨bb,off,rfl,hbl,hcell⟩:=HC0.o k (by rw[HNV.o];exact hlt);have l0:=HK.o.cellOf (K0.o.cellOf (hcell 0 _ rfl));have l1:=HK.o.cellOf (K0.o.cellOf (hcell 1 _ rfl));simp only[Nat.add_zero]at l0;clear hcell HC0 HC1 HC2
   have hsnoc:(yx f).take (k+1)=(yx f).take k++[f.vars.2[k]!.name]:=by
    rw[List.take_succ_eq_append_getElem (by unfold yx;rw[List.length_map,HNV.o];exact hlt)]
    congr 2
    unfold yx;rw[List.getElem_map,getElem!_pos _ k (by rw[HNV.o];exact hlt)]
   have HSn:=ag hsnoc;clear hsnoc;generalize hy:f.vars.2[k]! =y at*;have HY:=ag hy;clear hy;have CW:=ag (fun w=>typeWord_any y.type w);have hsz:=HK.o.size;obtain⟨va,vc,rfl,_⟩:=cr hO;by_cases hty:0≤y.type∧y.type≤2
   ·have HTy:=ag (show Cj y=true by unfold Cj;simp[hty]);rcases(show y.type=0∨y.type=1∨y.type=2 by omega)with ht0|ht0|ht0
    all_goals
     rw[ht0]at CW l1;clear hty;simp only[ht0,Dk]at CW;go_wp2_with (first |(at_builtin;go_must(refine wpList_append_own _ rfl (.tmp 18) (.tmp 21) 171 rfl W0.heap.size 9 i9 (.string ⟨#[]⟩) 1 16 Tryz.underlying171 hi9 hz9 hs9 hb9 rfl (by decide) _ _ _ rfl ((hO.alloc _).alloc _) ⟨wr.heap.size+1,0,none⟩ 1 1 [.string y.name] rfl rfl (news_at _ _ _ _ (jh _ _)) (uy rfl) (by unfold maxLen;omega) (by omega) (by simp;omega) ?_);intro v' w3 hown' hgrow3 _;have HK3:=ag (keeps_append hgrow3 (hO.alloc _) (HK.o.alloc _) (Nat.le_refl _));have HO3:=ag hown';have BB:=blk_append hgrow3 (Blk.new wr 83 _) (own_apart_ hO (Nat.le_refl _));have m1:=BB.cell 1;simp at m1;clear hgrow3 hown' BB)|(go_at_call 114;refine(CW.o _).mono ?_;rintro e w4 ⟨rfl,rfl⟩))
     go_roundw
     case rel => exact ⟨k + 1, by omega, by go_num, HK3.o, (by rw [HSn.o, List.map_append]; exact HO3.o), (show Hid _ from fun j hj => by
      by_cases e:j=k
      ·subst e;rw[HY.o];exact HTy.o
      ·exact A.o j (by omega))⟩
     case measure=>simp[intOf];omega
   ·have HTy:=ag (show Cj y=false by unfold Cj;rw[Bool.and_eq_false_iff,decide_eq_false_iff_not,decide_eq_false_iff_not];omega);rw[typeWord_no hty]at CW;clear hty;have HU:=ag (show NB=false from HB.o.trans (by rw[Ac (p:=Cj) (k:=k) (by rw[HNV.o];exact hlt) (by rw[HY.o];exact HTy.o)];simp only[Bool.false_and]));go_wp2_with (first |(at_builtin;go_must(refine wpList_append_own _ rfl (.tmp 18) (.tmp 21) 171 rfl W0.heap.size 9 i9 (.string ⟨#[]⟩) 1 16 Tryz.underlying171 hi9 hz9 hs9 hb9 rfl (by decide) _ _ _ rfl ((hO.alloc _).alloc _) ⟨wr.heap.size+1,0,none⟩ 1 1 [.string y.name] rfl rfl (news_at _ _ _ _ (jh _ _)) (uy rfl) (by unfold maxLen;omega) (by omega) (by simp;omega) ?_);intro v' w3 hown' hgrow3 _;have HK3:=ag (keeps_append hgrow3 (hO.alloc _) (HK.o.alloc _) (Nat.le_refl _));have HO3:=ag hown';have BB:=blk_append hgrow3 (Blk.new wr 83 _) (own_apart_ hO (Nat.le_refl _));have m1:=BB.cell 1;simp at m1;clear hgrow3 hown' BB)|(go_at_call 114;refine(CW.o _).mono ?_;rintro e w4 ⟨rfl,rfl⟩))
    go_ret;exact⟨ay (by rw[HU.o]),K0.o.ak HK3.o⟩
  ·have hltz:¬(k:Int)<(nv:Int):=(by omega);obtain rfl:nv=k:=by omega
   have HVS:=ag (show f.vars.2.all Cj=true from nu (fun j hj=>A.o j (by rw[←HNV.o];exact hj)));have hrow:=om hO;rw[List.take_of_length_le (by unfold yx;rw[List.length_map,HNV.o];exact Nat.le_refl _),List.map_map]at hrow;have HRow:=ag hrow;obtain⟨va,vc,rfl,_⟩:=cr hO;have BX1:=ag (BX.o.keep HK.o (by simp));have K1:=ag (K0.o.ak HK.o);clear hO HO hrow A BX;obtain⟨l0,l1,l2⟩:=BX1.o.c3;simp at l0 l1 l2;generalize wr=W1 at*;go_wp2;clear l0 l1 l2;go_loopw [4,31] (fun vv i wr=>∃k:Nat,k≤nb∧i= .int .i64 k∧ai W1 wr []∧wr.ownsRow W1.heap.size 9 1 vv k ((xh f).take k |>.map Value.string)) (fun _ i _=>nb -(intOf i).toNat)
   case atStart=>exact⟨0,Nat.zero_le _,rfl,ai.refl _ _,World.ownsRow_nil _ _ _ _⟩
   case round=>
    obtain⟨k,hk,rfl,hK,hO⟩:=hrel;have HK:=ag hK;clear hK;by_cases hlt:k<nb
    ·have hltz:(k:Int)<(nb:Int):=(by omega);obtain⟨bb,off,rfl,hbl,hcell⟩:=HC2.o k (by rw[HNB.o];exact hlt);have l0:=HK.o.cellOf (K1.o.cellOf (hcell 0 _ rfl));have l1:=HK.o.cellOf (K1.o.cellOf (hcell 1 _ rfl));have l2:=HK.o.cellOf (K1.o.cellOf (hcell 2 _ rfl));have l3:=HK.o.cellOf (K1.o.cellOf (hcell 3 _ rfl));have l4:=HK.o.cellOf (K1.o.cellOf (hcell 4 _ rfl));have l5:=HK.o.cellOf (K1.o.cellOf (hcell 5 _ rfl));have l6:=HK.o.cellOf (K1.o.cellOf (hcell 6 _ rfl));simp only[Nat.add_zero]at l0;clear hcell HC0 HC1 HC2
     have hsnoc:(xh f).take (k+1)=(xh f).take k++[f.blocks.2[k]!.name]:=by
      rw[List.take_succ_eq_append_getElem (by unfold xh;rw[List.length_map,HNB.o];exact hlt)]
      congr 2
      unfold xh;rw[List.getElem_map,getElem!_pos _ k (by rw[HNB.o];exact hlt)]
     have HSn:=ag hsnoc;clear hsnoc;have hyb:=HBL.o _ (az (l:=f.blocks.2) (k:=k) (by rw[HNB.o];exact hlt));obtain⟨pa,pc,pe,_,_,_⟩:=hyb.phis.open_;obtain⟨qa,qc,qe,_,_,_⟩:=hyb.insts.open_;rw[pe]at l1;rw[qe]at l2;generalize hy:f.blocks.2[k]! =y at*;generalize y.phis.2.length=np' at*;generalize y.insts.2.length=ni' at*;clear hy hyb pe qe;have hsz:=HK.o.size;obtain⟨va2,vc2,rfl,_⟩:=cr hO;go_wp2_with (first |(at_builtin;go_must(refine wpList_append_own _ rfl (.tmp 35) (.tmp 38) 171 rfl W1.heap.size 9 i9 (.string ⟨#[]⟩) 1 16 Tryz.underlying171 hi9 hz9 hs9 hb9 rfl (by decide) _ _ _ rfl ((hO.alloc _).alloc _) ⟨wr.heap.size+1,0,none⟩ 1 1 [.string y.name] rfl rfl (news_at _ _ _ _ (jh _ _)) (uy rfl) (by unfold maxLen;omega) (by omega) (by simp;omega) ?_);intro v' w3 hown' hgrow3 _;have HK3:=ag (keeps_append hgrow3 (hO.alloc _) (HK.o.alloc _) (Nat.le_refl _));have HO3:=ag hown';have BB:=blk_append hgrow3 (Blk.new wr 38 _) (own_apart_ hO (Nat.le_refl _));skip;clear hgrow3 hown' BB))
     go_roundw
     case rel=>exact⟨k+1,by omega,by go_num,HK3.o,(by rw[HSn.o,List.map_append];exact HO3.o)⟩
     case measure=>simp[intOf];omega
    ·have hltz:¬(k:Int)<(nb:Int):=(by omega);obtain rfl:nb=k:=by omega
     have hrow2:=om hO;rw[List.take_of_length_le (by unfold xh;rw[List.length_map,HNB.o];exact Nat.le_refl _),List.map_map]at hrow2;have HRow2:=ag hrow2;obtain⟨va2,vc2,rfl,_⟩:=cr hO;have HRow1:=ag (HRow.o.keep HK.o);have BX2:=ag (BX1.o.keep HK.o (by simp));have K2:=ag (K1.o.ak HK.o);clear hO hrow2 BX1 HRow;obtain⟨l0,l1,l2⟩:=BX2.o.c3;simp at l0 l1 l2;generalize wr=W2 at*
     have HB2 := ag (show NB = (parB f.params.2 && (decide (np ≤ 8 ∧ np ≤ nv) && decide (1 ≤ nb) && si (yx f) && si (xh f))) by
      have h1:=HB.o;rw[HVS.o,decide_eq_true (show nv≤512 by omega),decide_eq_true (show nb≤64 by omega)]at h1;rw[h1]
      cases parB f.params.2<;>simp)
     clear HB;go_wp2;go_loop [44] (fun i=>∃k:Nat,k≤np∧i= .int .i64 k∧Hid (∀j,j<k→(f.params.2[j]! ==(j:Int))=true)) (fun i=>np -(intOf i).toNat)
     case atStart=>exact⟨0,Nat.zero_le _,rfl,fun j hj=>absurd hj (Nat.not_lt_zero _)⟩
     case round=>
      obtain⟨k,hk,rfl,A⟩:=hrel;by_cases hlt:k<np
      ·have hltz:(k:Int)<(np:Int):=(by omega);obtain⟨bb,off,rfl,hbl,hcell⟩:=HC1.o k (by rw[HNP.o];exact hlt);have m0:=K2.o.cellOf (hcell 0 _ rfl);simp only[Nat.add_zero,Nat.mul_one]at m0;clear hcell HC0 HC1 HC2;generalize hy:f.params.2[k]! =y at*;have HY:=ag hy;clear hy;by_cases hyk:y=(k:Int)
       ·subst hyk;go_wp2;go_round
        case rel => exact ⟨k + 1, by omega, by go_num, (show Hid _ from fun j hj => by
         by_cases e:j=k
         ·subst e;rw[HY.o];simp
         ·exact A.o j (by omega))⟩
        case measure=>simp[intOf];omega
       ·have hne:(y !=(k:Int))=true:=(by simpa using hyk);have HU:=ag (show NB=false from HB2.o.trans (by rw[show parB f.params.2=false from wh (k:=k) (by rw[HNP.o];exact hlt) (by rw[HY.o];simpa using hyk)];rfl));clear hyk;go_wp2;go_ret;exact⟨ay (by rw[HU.o]),K2.o⟩
      ·have hltz:¬(k:Int)<(np:Int):=(by omega);obtain rfl:np=k:=by omega
       have HB3 := ag (show NB = (decide (np ≤ 8 ∧ np ≤ nv) && decide (1 ≤ nb) && si (yx f) && si (xh f)) by
        rw[HB2.o,show parB f.params.2=true from qh (fun j hj=>A.o j (by rw[←HNP.o];exact hj))]
        simp only[Bool.true_and])
       clear HB2 A HC0 HC1 HC2;have CV:=ag (unlike_any (.slice va nv vc) (yx f) W2 (HT.o.keep K2.o) HRow1.o HVN.o);have CBf:=ag (fun(w5:World) (k5:ai W2 w5 [])=>unlike_any (.slice va2 nb vc2) (xh f) w5 (HT.o.keep (K2.o.ak k5)) (HRow2.o.keep k5) HBM.o);have d1:decide ((nv:Int)≤512)=true:=decide_eq_true (by omega);have d2:decide ((nb:Int)≤64)=true:=decide_eq_true (by omega);have dp:decide (np≤8∧np≤nv)=decide ((np:Int)≤min 8 (nv:Int)):=(by rw[decide_eq_decide];omega);have db:decide (1≤nb)=decide ((1:Int)≤(nb:Int)):=(by rw[decide_eq_decide];omega);rw[dp,db]at HB3;clear dp db;generalize si (yx f)=U1 at*;generalize si (xh f)=U2 at*;by_cases hp:(np:Int)≤min 8 (nv:Int)
       ·by_cases h1:(1:Int)≤(nb:Int)
        ·rw[decide_eq_true hp,decide_eq_true h1]at HB3;cases U1
         ·go_wp2_with (first |(go_at_call 115;have CVx:=CV;clear CV;refine(CVx.o).mono ?_;rintro e w5 ⟨rfl,k5⟩;have CB:=ag (CBf.o w5 k5);have K5:=ag k5;clear k5 CBf)|(go_at_call 115;refine(CB.o).mono ?_;rintro e w6 ⟨rfl,k6⟩;have K6:=ag k6;clear k6))
          go_ret;exact⟨ay (by rw[HB3.o];rfl),K2.o.ak K5.o⟩
         ·cases U2
          all_goals
           go_wp2_with (first |(go_at_call 115;have CVx:=CV;clear CV;refine(CVx.o).mono ?_;rintro e w5 ⟨rfl,k5⟩;have CB:=ag (CBf.o w5 k5);have K5:=ag k5;clear k5 CBf)|(go_at_call 115;refine(CB.o).mono ?_;rintro e w6 ⟨rfl,k6⟩;have K6:=ag k6;clear k6))
           go_ret;exact⟨ay (by rw[HB3.o];rfl),(K2.o.ak K5.o).ak K6.o⟩
        ·rw[decide_eq_false h1]at HB3;go_wp2;go_ret;exact⟨ay (by rw[HB3.o];simp),K2.o⟩
       ·rw[decide_eq_false hp]at HB3;go_wp2;go_ret;exact⟨ay (by rw[HB3.o];simp),K2.o⟩
end Go.Proofs.YtjllbchfojonhaaGreatDoor
