/- Words for memory: what a call may have turned; a block that is known whole; rows of the call's own; Programs (api.Func) in memory: a plain mirror; what is kept; a program that came in, opened to its cells; A program that came in as an argument, opened; Plain: names, sign by sign. -/
import Derived.WalkKit
import Derived.WalkLawsBesides
import Derived.WalkSpells
import Derived.BigQuiet
import Derived.Deep.QuietTactic
import Derived.Maps.AppendAt
import Derived.Deep.RegionLaw
import Derived.Laws.Rows
import Derived.Handy
import Derived.Lib.OthersKept
import Derived.Below
import Derived.Deep.RegionHeld3
import Derived.Deep.Slices
import Derived.Deep.Strs
import Derived.Lib.SmallJoins
import Derived.OpenShut
import Derived.Test.YtjllbchfojonhaaGreatDoorChecked
import Derived.Lib.RuneCount
import Derived.Lib.IsU
import Derived.Lib.TrimU
set_option linter.unusedVariables false
set_option linter.unusedSimpArgs false
set_option maxRecDepth 100000
set_option maxHeartbeats 200000000
namespace Go.Proofs.YtjllbchfojonhaaGreatDoor
open Go.RowKit
theorem _root_.Go.RowKit.Hid.o {p:Prop} (h:Hid p):p:=h
theorem ag {p:Prop} (h:p):Hid p:=h
theorem zw {k:IntKind} {a b:Int} (h:a=b):Ending.returned (.int k a)= .returned (.int k b):=by rw[h]
theorem ay {a b:Bool} (h:a=b):Ending.returned (.bool a)= .returned (.bool b):=by rw[h]
theorem str_ne {x s:ByteArray} (h:¬x=s):(x.toList==s.toList)=false:=by
 rw[beq_eq_false_iff_ne];intro e;rw[ByteArray.toList_eq,ByteArray.toList_eq]at e;exact h (ByteArray.ext (Array.toList_inj.1 e))
structure ai (w w':World) (S:List Nat):Prop where
 os:w'.os=w.os
 tape:w'.tape=w.tape
 output:w'.output=w.output
 size:w.heap.size≤w'.heap.size
 block:∀k,k<w.heap.size→k∉S→w'.heap[k]? =w.heap[k]?
theorem ai.refl (w:World) (S:List Nat):ai w w S:=⟨rfl,rfl,rfl,Nat.le_refl _,fun _ _ _=>rfl⟩
theorem ai.below {w w':World} {S:List Nat} {B:Nat} (h:ai w w' S) (hB:B≤w.heap.size) (hS:∀k∈S,B≤k):Below B w w':=
 ⟨h.os,h.tape,h.output,h.size,fun k hk=>h.block k (by omega) (fun hm=>by have:=hS k hm;omega)⟩
theorem ai.trans {a b c:World} {S T:List Nat} (h:ai a b S) (k:ai b c T):ai a c (S++T):=
 ⟨k.os.trans h.os, k.tape.trans h.tape, k.output.trans h.output, Nat.le_trans h.size k.size, fun i hi hn => by
  simp only[List.mem_append,not_or]at hn
  exact(k.block i (Nat.lt_of_lt_of_le hi h.size) hn.2).trans (h.block i hi hn.1)⟩
theorem ai.mono {w w':World} {S T:List Nat} (h:ai w w' S) (hs:∀k∈S,k∈T∨w.heap.size≤k):ai w w' T:=
 ⟨h.os, h.tape, h.output, h.size, fun k hk hn => h.block k hk (fun hm => by
  rcases hs k hm with h1|h1
  ·exact hn h1
  ·omega)⟩
theorem ai.drew {w w':World} {S:List Nat} (h:ai w w' S):ai w w'.drew S:=⟨h.os,h.tape,h.output,h.size,h.block⟩
theorem ai.drewN {w w':World} {S:List Nat} (h:ai w w' S) (n:Nat):ai w (w'.drewN n) S:=⟨h.os,h.tape,h.output,h.size,h.block⟩
theorem ai.alloc {w w':World} {S:List Nat} (h:ai w w' S) (o:Obj):ai w (w'.alloc o) S:=
 ⟨h.os,h.tape,h.output,Nat.le_trans h.size (by simp),fun i hi hn=>(Below.heap_alloc w' o i (Nat.lt_of_lt_of_le hi h.size)).trans (h.block i hi hn)⟩
theorem ai.setCell {w w':World} {S:List Nat} (h:ai w w' S) {p:Addr} (hp:p.block∈S∨w.heap.size≤p.block) (u:Value):ai w (w'.setCell p u) S:=
 ⟨h.os, h.tape, h.output, by simpa [World.setCell] using h.size, fun i hi hn => (Below.heap_setCell w' p u i (by
  rintro rfl;rcases hp with hp|hp
  ·exact hn hp
  ·omega)).trans (h.block i hi hn)⟩
theorem ai.grown {w w' w'':World} {S:List Nat} {row:Option Nat} (h:ai w w' S) (hg:w'.grownBy w'' row) (hr:∀k,row=some k→k∈S∨w.heap.size≤k):ai w w'' S:=
 ⟨hg.os.trans h.os, hg.tape.trans h.tape, hg.output.trans h.output, Nat.le_trans h.size hg.size, fun i hi hn => (hg.block i (Nat.lt_of_lt_of_le hi h.size) (by
  intro e;rcases hr i e.symm with h1|h1
  ·exact hn h1
  ·omega)).trans (h.block i hi hn)⟩
def Blk (w:World) (g:Nat) (t:TypeId) (cs:Array Value):Prop:=w.heap[g]? =some (.cells cs t (0,0))
section
variable {w w':World} {g:Nat} {t:TypeId} {cs:Array Value}
theorem Blk.lt (h:Blk w g t cs):g<w.heap.size:=by
 rcases Nat.lt_or_ge g w.heap.size with h1|h1
 ·exact h1
 ·unfold Blk at h;rw[Array.getElem?_eq_none h1]at h;cases h
theorem Blk.cell (h:Blk w g t cs) (i:Nat):w.cell? ⟨g,i,none⟩=cs[i]? :=cell_of_row w g i cs t (0,0) h
theorem Blk.frozen (h:Blk w g t cs) (i:Nat):w.frozen? ⟨g,i,none⟩=false:=by
 unfold Blk at h;simp[World.frozen?,h]
theorem Blk.new (w:World) (t:TypeId) (cs:Array Value):Blk (w.alloc (.cells cs t)) w.heap.size t cs:=heap_alloc_new w _
theorem Blk.keep {S:List Nat} (h:Blk w g t cs) (hk:ai w w' S) (hg:g∉S):Blk w' g t cs:=(hk.block g h.lt hg).trans h
theorem Blk.gu (h:Blk w g t cs) (i:Nat) (u:Value):Blk (w.setCell ⟨g,i,none⟩ u) g t (cs.setIfInBounds i u):=by
 unfold Blk at h ⊢;simp[World.setCell,Array.getElem?_modify,h]
end
theorem au {w w':World} {S:List Nat} {base:Nat} {e:TypeId} {size n:Nat} {v:Value} {xs:List Value} (h:w.ownsRow base e size v n xs) (hk:ai w w' S) (hs:∀k,v.ownBlock=some k→k∉S):w'.ownsRow base e size v n xs:=by
 obtain⟨h1,h2⟩:=h;refine⟨h1, ?_⟩;rcases h2 with h2|⟨g,cap,cur,hv,hg,hh,r⟩
 ·exact .inl h2
 ·refine .inr ⟨g,cap,cur,hv,hg, ?_,r⟩;have:g∉S:=hs g (by rw[hv];rfl);exact(hk.block g (Blk.lt hh) this).trans hh
theorem ig {w:World} {base:Nat} {e:TypeId} {size n k:Nat} {v:Value} {xs:List Value} (h:w.ownsRow base e size v n xs) (hk:v.ownBlock=some k):k<w.heap.size∧base≤k:=by
 rcases h.2 with⟨rfl,_⟩|⟨g,cap,cur,rfl,hg,hh,_⟩
 ·cases hk
 ·simp[Value.ownBlock]at hk;subst hk;exact⟨Blk.lt hh,hg⟩
theorem own_ne {w:World} {base g:Nat} {e t:TypeId} {size n:Nat} {v:Value} {xs:List Value} {cs:Array Value} (h:w.ownsRow base e size v n xs) (hg:Blk w g t cs) (hne:e≠t):v.ownBlock≠some g:=by
 rcases h.2 with⟨rfl,_⟩|⟨g',cap,cur,rfl,_,hh,_⟩
 ·simp[Value.ownBlock]
 ·intro he;simp[Value.ownBlock]at he;subst he;unfold Blk at hg;rw[hh]at hg
  injection hg with hg
  injection hg with _ ht
  exact hne ht
theorem xx {w:World} {base base':Nat} {e e':TypeId} {size size' n n' k:Nat} {v v':Value} {xs xs':List Value} (h:w.ownsRow base e size v n xs) (h':w.ownsRow base' e' size' v' n' xs') (hne:e≠e')
  (hk:v.ownBlock=some k):v'.ownBlock≠some k:=by
 rcases h.2 with⟨rfl,_⟩|⟨g,cap,cur,rfl,_,hh,_⟩
 ·cases hk
 ·simp[Value.ownBlock]at hk;subst hk;exact own_ne h' hh (Ne.symm hne)
theorem cr {w:World} {base:Nat} {e:TypeId} {size n:Nat} {v:Value} {xs:List Value} (h:w.ownsRow base e size v n xs):∃a cap,v= .slice a n cap∧n≤cap∧cap≤maxLen:=by
 rcases h.2 with⟨rfl,rfl⟩|⟨g,cap,cur,rfl,_,_,h1,h2,_⟩
 ·exact⟨none,0,rfl,by omega,by simp[maxLen]⟩
 ·exact⟨_,cap,rfl,h1,h2⟩
theorem add_plain (b off k:Nat):(⟨b,off,none⟩:Addr).add k=⟨b,off+k,none⟩:=by
 unfold Addr.add;split
 ·rename_i h;obtain⟨rfl,_⟩:=h;rfl
 ·rfl
theorem ai.of_below {w w':World} (h:Below w.heap.size w w'):ai w w' []:=⟨h.os,h.tape,h.output,h.size,fun k hk _=>h.block k hk⟩
theorem ai.below_ {w w':World} (h:ai w w' []):Below w.heap.size w w':=h.below (Nat.le_refl _) (by simp)
theorem ai.ak {a b c:World} (h:ai a b []) (k:ai b c []):ai a c []:=by simpa using h.trans k
theorem ai.iterAt {w w':World} {S:List Nat} (h:ai w w' S) {k:Nat} (hk:k∈S∨w.heap.size≤k) (s:ByteArray) (pos:Nat):ai w (w'.iterAt k s pos) S:=
 ⟨h.os, h.tape, h.output, by rw [Lib.iterAt_size]; exact h.size, fun i hi hn => (Lib.iterAt_other w' k i s pos (by
  rintro rfl;rcases hk with hk|hk
  ·exact hn hk
  ·omega)).trans (h.block i hi hn)⟩
theorem _root_.Go.RowKit.Hid.kb {w w':World} {g:Nat} {t:TypeId} {cs:Array Value} {S:List Nat} (h:Hid (Blk w g t cs)) (k:ai w w' S) (hg:g∉S:=by simp):Hid (Blk w' g t cs):=ag (h.out.keep k hg)
theorem _root_.Go.RowKit.Hid.kt {a b c:World} (h:Hid (ai a b [])) (k:ai b c []):Hid (ai a c []):=ag (h.out.ak k)
theorem ai.cellOf {w w':World} (h:ai w w' []) {p:Addr} {v:Value} (hc:w.cell? p=some v):w'.cell? p=some v:=
 (h.below_.cell (World.block_lt_of_cell? w _ hc)).trans hc
theorem iterPos_of {w:World} {k:Nat} {s:ByteArray} {p:Nat} (h:w.heap[k]? =some (.stringIter s p)):w.iterPos k=p:=by simp[World.iterPos,h]
theorem ai.iterOf {w w':World} (h:ai w w' []) {k:Nat} {s:ByteArray} {p:Nat} (hk:w.heap[k]? =some (.stringIter s p)):w'.heap[k]? =some (.stringIter s p):=
 (h.block k (Array.getElem?_eq_some_iff.1 hk).1 (by simp)).trans hk
theorem sA {α:Type _} (l:List α) (i:Nat) (a:α):l.toArray.setIfInBounds i a=(l.set i a).toArray:=List.setIfInBounds_toArray ..
theorem sB {α:Type _} (x:α) (l:List α) (a:α):(x::l).set 0 a=a::l:=rfl
theorem sC {α:Type _} (x:α) (l:List α) (n:Nat) (a:α):(x::l).set (n+1) a=x::l.set n a:=rfl
theorem tk {P:Program} {ops:Array Oper} {Q:Exit→Act→World→Prop} {md:Region.Mode} {S:World→Prop} {i:Nat} {oi:Oper} {v:Value} {fuel:Nat} {listed:Array Bool} {a:Act} {w:World} (hi:ops[i]? =some oi) (hy:YieldsIf P ops S oi v a) (hS:S w)
    (h:wpAnyH P md ops Q S fuel (listed.setIfInBounds i true) (a.put oi.dst v) w) (hs:Region.noSelect ops=true:=by kernel_rfl) (hf:Region.free md ops listed i=true:=by kernel_rfl) (hr:(Region.ready md ops listed).contains i=true:=by kernel_rfl)
    (hQ:∀c a w,Q (.panic c) (a.put oi.dst v) w→Q (.panic c) a w:=by exact fun _ _ _ h=>h):wpAnyH P md ops Q S (fuel+1) listed a w:=wpAnyH_take hi hs hf hr hQ hy hS h
theorem tl {P:Program} {ops:Array Oper} {Q:Exit→Act→World→Prop} {md:Region.Mode} {S:World→Prop} {fuel:Nat} {listed l':Array Bool} {a a':Act} {w:World} {v:Value} (i:Nat) (oi:Oper) (hi:ops[i]? =some oi) (hS:S w)
  (h:wpAnyH P md ops Q S fuel l' a' w) (hy:YieldsIf P ops S oi v a:=by exact Or.inl ⟨by rfl,by intro w hSw;(try dsimp only at hSw);go_simp;(try with_reducible rfl)⟩)
  (ha:a.put oi.dst v=a':=by(try simp only[Act.put,sA,sB,sC]);exact rfl) (hl:listed.setIfInBounds i true=l':=by(try simp only[sA,sB,sC]);exact rfl) (hs:Region.noSelect ops=true:=by kernel_rfl) (hf:Region.free md ops listed i=true:=by kernel_rfl) (hr:(Region.ready md ops listed).contains i=true:=by kernel_rfl)
  (hQ:∀c a w,Q (.panic c) (a.put oi.dst v) w→Q (.panic c) a w:=by exact fun _ _ _ h=>h):wpAnyH P md ops Q S (fuel+1) listed a w:=by subst ha hl;exact wpAnyH_take hi hs hf hr hQ hy hS h
theorem tu {P:Program} {ops:Array Oper} {Q:Exit→Act→World→Prop} {md:Region.Mode} {S:World→Prop} {fuel:Nat} {listed l':Array Bool} {a a':Act} {w:World} (i:Nat) (oi:Oper) (hi:ops[i]? =some oi) (hS:S w)
  (h:wpAnyH P md ops Q S fuel l' a' w) (hy:YieldsIf P ops S oi undef a:=by exact Or.inr ⟨by rfl,rfl⟩)
  (ha:a.put oi.dst undef=a':=by(try simp only[Act.put,sA,sB,sC]);exact rfl) (hl:listed.setIfInBounds i true=l':=by(try simp only[sA,sB,sC]);exact rfl) (hs:Region.noSelect ops=true:=by kernel_rfl) (hf:Region.free md ops listed i=true:=by kernel_rfl) (hr:(Region.ready md ops listed).contains i=true:=by kernel_rfl)
  (hQ:∀c a w,Q (.panic c) (a.put oi.dst undef) w→Q (.panic c) a w:=by exact fun _ _ _ h=>h):wpAnyH P md ops Q S (fuel+1) listed a w:=by subst ha hl;exact wpAnyH_take hi hs hf hr hQ hy hS h
theorem tp {P:Program} {ops:Array Oper} {Q:Exit→Act→World→Prop} {md:Region.Mode} {S:World→Prop} {fuel:Nat} {listed l':Array Bool} {a a':Act} {w:World} {v:Value} (i d:Nat) {op:Op} {ty:TypeId} {ps:String} {af:Array Edge} {gd:Option (Nat×Bool)} (hi:ops[i]? =some ⟨some d,op,ty,ps,af,gd⟩) (hS:S w)
  (h:wpAnyH P md ops Q S fuel l' a' w) (hy:YieldsIf P ops S ⟨some d,op,ty,ps,af,gd⟩ v a:=by exact Or.inl ⟨by rfl,by intro w hSw;(try dsimp only at hSw);go_simp;(try with_reducible rfl)⟩)
  (ha:a.put (some d) v=a':=by(try simp only[Act.put,sA,sB,sC]);exact rfl) (hl:listed.setIfInBounds i true=l':=by(try simp only[sA,sB,sC]);exact rfl) (hs:Region.noSelect ops=true:=by kernel_rfl) (hf:Region.free md ops listed i=true:=by kernel_rfl) (hr:(Region.ready md ops listed).contains i=true:=by kernel_rfl)
  (hQ:∀c a w,Q (.panic c) (a.put (some d) v) w→Q (.panic c) a w:=by exact fun _ _ _ h=>h):wpAnyH P md ops Q S (fuel+1) listed a w:=by subst ha hl;exact wpAnyH_take hi hs hf hr hQ hy hS h
theorem t4 {P:Program} {md:Region.Mode} {ops:Array Oper} {Q:Exit→Act→World→Prop} {S:World→Prop} {fuel:Nat} {listed:Array Bool} {a:Act} {w:World}:AllReadyH P md ops Q S fuel listed a w []:=AllReadyH.nil
theorem t3 {P:Program} {md:Region.Mode} {ops:Array Oper} {Q:Exit→Act→World→Prop} {S:World→Prop} {fuel:Nat} {listed:Array Bool} {a:Act} {w:World} {i:Nat} {o:Oper} {rs:List Nat}
  (h:∀K':Act→World→Prop,Shut (∀a w,S w→(S w→wpAnyH P md ops Q S fuel (listed.setIfInBounds i true) a w)→K' a w)→if Region.wanted o (yielded ops a.tmps)=true then Oper.wp P o a w K' Q else K' (a.put o.dst undef) w)
  (hs:AllReadyH P md ops Q S fuel listed a w rs) (ho:ops[i]? =some o:=by exact rfl):AllReadyH P md ops Q S fuel listed a w (i::rs):=AllReadyH.cons ho h hs
theorem t2 {P:Program} {md:Region.Mode} {ops:Array Oper} {Q:Exit→Act→World→Prop} {S:World→Prop} {fuel:Nat} {listed:Array Bool} {a:Act} {w:World} (rs:List Nat) (h:AllReadyH P md ops Q S fuel listed a w rs) (hr:Region.ready md ops listed=rs:=by kernel_rfl) (hne:rs≠[]:=by simp):wpAnyH P md ops Q S (fuel+1) listed a w:=wpAnyH_ready hr hne h
theorem t1 {P:Program} {md:Region.Mode} {ops:Array Oper} {Q:Exit→Act→World→Prop} {S:World→Prop} {fuel:Nat} {listed:Array Bool} {a:Act} {w:World} (i:Nat) {o:Oper}
  (h:∀K':Act→World→Prop,Shut (∀a w,S w→(S w→wpAnyH P md ops Q S fuel (listed.setIfInBounds i true) a w)→K' a w)→if Region.wanted o (yielded ops a.tmps)=true then Oper.wp P o a w K' Q else K' (a.put o.dst undef) w)
  (ho:ops[i]? =some o:=by exact rfl) (hr:Region.ready md ops listed=[i]:=by kernel_rfl):wpAnyH P md ops Q S (fuel+1) listed a w:=wpAnyH_ready hr (by simp) (AllReadyH.cons ho h AllReadyH.nil)
section
variable {w:World} {g:Nat} {t:TypeId} {cs:Array Value}
theorem Blk.c2 (h:Blk w g t cs):w.cell? ⟨g,0,none⟩=cs[0]? ∧w.cell? ⟨g,1,none⟩=cs[1]? :=⟨h.cell 0,h.cell 1⟩
theorem Blk.c3 (h:Blk w g t cs):w.cell? ⟨g,0,none⟩=cs[0]? ∧w.cell? ⟨g,1,none⟩=cs[1]? ∧w.cell? ⟨g,2,none⟩=cs[2]? :=⟨h.cell 0,h.cell 1,h.cell 2⟩
theorem Blk.c4 (h:Blk w g t cs):w.cell? ⟨g,0,none⟩=cs[0]? ∧w.cell? ⟨g,1,none⟩=cs[1]? ∧w.cell? ⟨g,2,none⟩=cs[2]? ∧w.cell? ⟨g,3,none⟩=cs[3]? :=⟨h.cell 0,h.cell 1,h.cell 2,h.cell 3⟩
theorem Blk.c7 (h:Blk w g t cs):w.cell? ⟨g,0,none⟩=cs[0]? ∧w.cell? ⟨g,1,none⟩=cs[1]? ∧w.cell? ⟨g,2,none⟩=cs[2]? ∧w.cell? ⟨g,3,none⟩=cs[3]? ∧w.cell? ⟨g,4,none⟩=cs[4]? ∧w.cell? ⟨g,5,none⟩=cs[5]? ∧w.cell? ⟨g,6,none⟩=cs[6]? :=⟨h.cell 0,h.cell 1,h.cell 2,h.cell 3,h.cell 4,h.cell 5,h.cell 6⟩
theorem Blk.c13 (h:Blk w g t cs):w.cell? ⟨g,0,none⟩=cs[0]? ∧w.cell? ⟨g,1,none⟩=cs[1]? ∧w.cell? ⟨g,2,none⟩=cs[2]? ∧w.cell? ⟨g,3,none⟩=cs[3]? ∧w.cell? ⟨g,4,none⟩=cs[4]? ∧w.cell? ⟨g,5,none⟩=cs[5]? ∧w.cell? ⟨g,6,none⟩=cs[6]? ∧w.cell? ⟨g,7,none⟩=cs[7]? ∧w.cell? ⟨g,8,none⟩=cs[8]? ∧w.cell? ⟨g,9,none⟩=cs[9]? ∧w.cell? ⟨g,10,none⟩=cs[10]? ∧w.cell? ⟨g,11,none⟩=cs[11]? ∧w.cell? ⟨g,12,none⟩=cs[12]? :=⟨h.cell 0,h.cell 1,h.cell 2,h.cell 3,h.cell 4,h.cell 5,h.cell 6,h.cell 7,h.cell 8,h.cell 9,h.cell 10,h.cell 11,h.cell 12⟩
end
end Go.Proofs.YtjllbchfojonhaaGreatDoor
namespace Go.Proofs.YtjllbchfojonhaaGreatDoor
open Go.ChangeShapes Go.WideShapes Go.ChangeAt Go.RowKit
def Row (w:World) (size:Nat) (v:Value) (es:List (List Value)):Prop:=
 ∃a cap,v= .slice a es.length cap∧es.length≤cap∧cap≤maxLen∧(es.length=0∨∃b off,a=some ⟨b,off,none⟩∧b<w.heap.size∧∀j e,es[j]? =some e→∀i x,e[i]? =some x→w.cell? ⟨b,off+j*size+i,none⟩=some x)
abbrev jl:=Value×List Int
structure zi where
 name:ByteArray
 type:Int
structure jk where
 dst:Int
 args:jl
 froms:jl
structure cu where
 op:Int
 dst:Int
 args:jl
 num:Int
structure df where
 name:ByteArray
 phis:Value×List jk
 insts:Value×List cu
 kind:Int
 var:Int
 to0:Int
 to1:Int
structure ax where
 vars:Value×List zi
 params:jl
 blocks:Value×List df
def intCells (z:Int):List Value:=[.int .i64 z]
def zi.cells (x:zi):List Value:=[.string x.name,.int .i64 x.type]
def jk.cells (x:jk):List Value:=[.int .i64 x.dst,x.args.1,x.froms.1]
def cu.cells (x:cu):List Value:=[.int .i64 x.op,.int .i64 x.dst,x.args.1,.int .i64 x.num]
def df.cells (x:df):List Value:=[.string x.name,x.phis.1,x.insts.1,.int .i64 x.kind,.int .i64 x.var,.int .i64 x.to0,.int .i64 x.to1]
def ax.val (f:ax):Value:= .agg #[f.vars.1,f.params.1,f.blocks.1]
def bu (w:World) (p:jl):Prop:=Row w 1 p.1 (p.2.map intCells)
def PhiAt (w:World) (p:jk):Prop:=bu w p.args∧bu w p.froms
def uu (w:World) (x:cu):Prop:=bu w x.args
structure Cf (w:World) (b:df):Prop where
 phis:Row w 3 b.phis.1 (b.phis.2.map jk.cells)
 phi:∀p∈b.phis.2,PhiAt w p
 insts:Row w 4 b.insts.1 (b.insts.2.map cu.cells)
 inst:∀x∈b.insts.2,uu w x
 size:b.name.size≤maxLen
structure cz (w:World) (f:ax):Prop where
 vars:Row w 2 f.vars.1 (f.vars.2.map zi.cells)
 names:∀v∈f.vars.2,v.name.size≤maxLen
 params:bu w f.params
 blocks:Row w 7 f.blocks.1 (f.blocks.2.map df.cells)
 block:∀b∈f.blocks.2,Cf w b
theorem Row.keep {w w':World} {size:Nat} {v:Value} {es:List (List Value)} (h:Row w size v es) (k:ai w w' []):Row w' size v es:=by
 obtain⟨a,cap,h1,h2,h3,h4⟩:=h;refine⟨a,cap,h1,h2,h3, ?_⟩;rcases h4 with h4|⟨b,off,h5,h6,h7⟩
 ·exact .inl h4
 ·refine .inr ⟨b,off,h5,by have:=k.size;omega,fun j e he i x hx=> ?_⟩;exact k.cellOf (h7 j e he i x hx)
theorem PhiAt.keep {w w':World} {p:jk} (h:PhiAt w p) (k:ai w w' []):PhiAt w' p:=⟨Row.keep h.1 k,Row.keep h.2 k⟩
theorem Cf.keep {w w':World} {b:df} (h:Cf w b) (k:ai w w' []):Cf w' b:=
 ⟨h.phis.keep k,fun p hp=>(h.phi p hp).keep k,h.insts.keep k,fun x hx=>Row.keep (h.inst x hx) k,h.size⟩
theorem cz.keep {w w':World} {f:ax} (h:cz w f) (k:ai w w' []):cz w' f:=
 ⟨h.vars.keep k,h.names,Row.keep h.params k,h.blocks.keep k,fun b hb=>(h.block b hb).keep k⟩
section
variable {H:Type} {enc:TypeId×Value→H} {P:Program} {w:World} {base:Nat} {spare:Nat→Bool} {held:Bool}
theorem slice_view {t e:TypeId} {C fuel:Nat} {cs:List Value} {x:DataW H×List MemPlace} (ht:P.underlying t=some (.slice e)) (hC:P.cellsOf e=C) (hC0:0<C)
  (h:DataW.trod enc P w base spare held fuel t cs=some x):
  ∃ (a : Option Addr) (len cap : Nat), cs = [.slice a len cap] ∧ len ≤ cap ∧ cap ≤ maxLen ∧ (len = 0 ∨ ∃ b off, a = some ⟨b, off, none⟩ ∧ b < w.heap.size ∧
   ∀i,i<len→∃(cs':List Value) (n:Nat) (y:DataW H×List MemPlace),cs'.length=C∧(∀j,j<C→w.cell? ⟨b,off+i*C+j,none⟩=cs'[j]?)∧DataW.trod enc P w base spare held n e cs'=some y):=by
 rcases Go.Deep.open_slice ht h with⟨rfl,_⟩|⟨a,len,cap,m,n,D,Pl,rfl,hb,hl,hm,hmm,_,hi⟩
 ·exact⟨none,0,0,rfl,Nat.le_refl _,by simp[maxLen],.inl rfl⟩
 ·refine⟨some a,len,cap,rfl,hl,hm, ?_⟩;have hlm:len≤m:=(by rw[hmm];split<;>omega);rcases Nat.eq_zero_or_pos len with h0|h0
  ·exact .inl h0
  ·right;obtain⟨b,off,spot⟩:=a
   have hs:spot=none∧b<w.heap.size:=by
    obtain⟨cs',h1,_⟩:=hi 0 (by omega);obtain⟨_,hcl,hat⟩:=World.cells?_some h1;have h2:=hat 0 (by omega);rw[List.getElem?_eq_getElem (by omega)]at h2;have h3:=World.cell?_spot h2;have h4:=World.block_lt_of_cell? w _ h2
    simpa[Addr.add]using And.intro h3 h4
   obtain⟨rfl,hlt⟩:=hs;refine⟨b,off,rfl,hlt,fun i hil=> ?_⟩;obtain⟨cs',h1,h2⟩:=hi i (by omega);obtain⟨_,hcl,hat⟩:=World.cells?_some h1;rw[hC]at hcl hat;refine⟨cs',n,_,hcl,fun j hj=> ?_,h2⟩;have h3:=hat j hj;rw[Go.Deep.add_add]at h3;rw[←h3];rw[add_plain,Nat.add_assoc]
theorem zm {M:Type} (cells:M→List Value) (At:M→Prop) {t e:TypeId} {C:Nat} (ht:P.underlying t=some (.slice e)) (hC:P.cellsOf e=C) (hC0:0<C)
  (he:∀(n:Nat) (cs:List Value) (y:DataW H×List MemPlace),cs.length=C→DataW.trod enc P w base spare held n e cs=some y→∃m,cs=cells m∧At m)
  {fuel:Nat} {cs:List Value} {x:DataW H×List MemPlace} (h:DataW.trod enc P w base spare held fuel t cs=some x):
  ∃(v:Value) (l:List M),cs=[v]∧Row w C v (l.map cells)∧∀m∈l,At m:=by
 obtain⟨a,len,cap,rfl,hl,hm,hv⟩:=slice_view ht hC hC0 h;rcases hv with rfl|⟨b,off,rfl,hb,hi⟩
 ·exact⟨_,[],rfl,⟨a,cap,rfl,by simp,hm,.inl rfl⟩,by simp⟩
 ·have hz:∀i,i<len→∃m:M,At m∧(cells m).length=C∧∀j,j<C→w.cell? ⟨b,off+i*C+j,none⟩=(cells m)[j]? :=by
   intro i hil;obtain⟨cs',n,y,hcl,hat,ht'⟩:=hi i hil;obtain⟨m,rfl,hA⟩:=he n cs' y hcl ht';exact⟨m,hA,hcl,hat⟩
  rcases Nat.eq_zero_or_pos len with rfl|hpos
  ·exact⟨_,[],rfl,⟨_,cap,rfl,by simp,hm,.inl rfl⟩,by simp⟩
  obtain⟨m0,_⟩:=hz 0 hpos;have:Inhabited M:=⟨m0⟩;obtain⟨Z,hZ⟩:=Go.Deep.choose_lt hz;refine⟨_,(List.range len).map Z,rfl,⟨some ⟨b,off,none⟩,cap,by simp,by simpa using hl,hm,.inr ⟨b,off,rfl,hb,fun j e he i x hx=> ?_⟩⟩,fun m hm=> ?_⟩
  ·simp only[List.map_map,List.getElem?_map,Option.map_eq_some_iff]at he;obtain⟨k,hk,rfl⟩:=he
   obtain⟨hlt,rfl⟩:j<len∧j=k:=by
    rw[List.getElem?_eq_some_iff]at hk;obtain⟨h1,h2⟩:=hk;simp at h1 h2;exact⟨h1,h2⟩
   have hi2:i<C:=by
    rw[←(hZ j hlt).2.1];exact(List.getElem?_eq_some_iff.1 hx).1
   rw[(hZ j hlt).2.2 i hi2];exact hx
  ·simp only[List.mem_map,List.mem_range]at hm;obtain⟨i,hil,rfl⟩:=hm;exact(hZ i hil).1
end
end Go.Proofs.YtjllbchfojonhaaGreatDoor
namespace Go.Proofs.YtjllbchfojonhaaGreatDoor
open Go.Lib Go.Deep Go.Joins Go.ChangeShapes Go.WideShapes Go.ChangeAt Go.RowKit
theorem zy {α:Type} {l:List α} (h:l.length=2):∃a b,l=[a,b]:=by match l,h with |[a,b],_=>exact⟨a,b,rfl⟩
theorem list3 {α:Type} {l:List α} (h:l.length=3):∃a b c,l=[a,b,c]:=by match l,h with |[a,b,c],_=>exact⟨a,b,c,rfl⟩
theorem list4 {α:Type} {l:List α} (h:l.length=4):∃a b c d,l=[a,b,c,d]:=by match l,h with |[a,b,c,d],_=>exact⟨a,b,c,d,rfl⟩
theorem list7 {α:Type} {l:List α} (h:l.length=7):∃a b c d e f g,l=[a,b,c,d,e,f,g]:=by match l,h with |[a,b,c,d,e,f,g],_=>exact⟨a,b,c,d,e,f,g,rfl⟩
section
variable {H:Type} {enc:TypeId×Value→H} {w:World} {base:Nat} {spare:Nat→Bool} {held:Bool}
theorem open_ints {fuel:Nat} {cs:List Value} {x:DataW H×List MemPlace} (h:DataW.trod enc Tryz.prog w base spare held fuel 23 cs=some x):
  ∃p:jl,cs=[p.1]∧bu w p:=by
 obtain ⟨v, l, rfl, hr, _⟩ := zm (M := Int) intCells (fun _ => True) (C := 1) Tryz.underlying23 (by kernel_rfl) (by decide) (fun n cs y hl ht => by
  obtain⟨z,rfl,_,_⟩:=DataW.trod_int Tryz.underlying3 ht
  exact⟨z,rfl,trivial⟩) h
 exact⟨(v,l),rfl,hr⟩
theorem open_vars {fuel:Nat} {cs:List Value} {x:DataW H×List MemPlace} (h:DataW.trod enc Tryz.prog w base spare held fuel 22 cs=some x):
  ∃(v:Value) (l:List zi),cs=[v]∧Row w 2 v (l.map zi.cells)∧∀m∈l,m.name.size≤maxLen:=
 zm zi.cells (fun m => m.name.size ≤ maxLen) (C := 2) Tryz.underlying22 (by kernel_rfl) (by decide) (fun n cs y hl ht => by
  obtain⟨y0,y1,n',_,_,h0,h1⟩:=trod_struct2 Tryz.underlying83 ht;obtain⟨c0,c1,rfl⟩:=zy hl;obtain⟨s,e0,_,hs⟩:=DataW.trod_string Tryz.underlying9 h0;obtain⟨z,e1,_,_⟩:=DataW.trod_int Tryz.underlying81 h1;simp[show Tryz.prog.cellsOf 9=1 by kernel_rfl,show Tryz.prog.cellsOf 81=1 by kernel_rfl]at e0 e1;subst e0 e1
  exact⟨⟨s,z⟩,rfl,hs⟩) h
theorem open_phis {fuel:Nat} {cs:List Value} {x:DataW H×List MemPlace} (h:DataW.trod enc Tryz.prog w base spare held fuel 31 cs=some x):
  ∃(v:Value) (l:List jk),cs=[v]∧Row w 3 v (l.map jk.cells)∧∀m∈l,PhiAt w m:=
 zm jk.cells (PhiAt w) (C := 3) Tryz.underlying31 (by kernel_rfl) (by decide) (fun n cs y hl ht => by
  obtain⟨y0,y1,y2,n',_,_,h0,h1,h2⟩:=trod_struct3 Tryz.underlying95 ht;obtain⟨c0,c1,c2,rfl⟩:=list3 hl;obtain⟨z,e0,_,hs⟩:=DataW.trod_int Tryz.underlying3 h0;obtain⟨p1,e1,k1⟩:=open_ints h1;obtain⟨p2,e2,k2⟩:=open_ints h2;simp[show Tryz.prog.cellsOf 3=1 by kernel_rfl,show Tryz.prog.cellsOf 23=1 by kernel_rfl]at e0 e1 e2;subst e0 e1 e2
  exact⟨⟨z,p1,p2⟩,rfl,k1,k2⟩) h
theorem open_two {fuel:Nat} {c0 c1:Value} {x:DataW H×List MemPlace} (h:DataW.trod enc Tryz.prog w base spare held fuel 34 [c0,c1]=some x):∃a b:Int,c0= .int .i64 a∧c1= .int .i64 b:=by
 obtain⟨xs,n,_,_,_,hxl,hx⟩:=DataW.trod_array Tryz.underlying34 h;obtain⟨x0,x1,rfl⟩:=zy hxl;have h0:=hx 0 (by decide);have h1:=hx 1 (by decide);simp[show Tryz.prog.cellsOf 3=1 by kernel_rfl]at h0 h1;obtain⟨a,e0,_,_⟩:=DataW.trod_int Tryz.underlying3 h0;obtain⟨b,e1,_,_⟩:=DataW.trod_int Tryz.underlying3 h1;simp at e0 e1;exact⟨a,b,e0,e1⟩
end
end Go.Proofs.YtjllbchfojonhaaGreatDoor
namespace Go.Proofs.YtjllbchfojonhaaGreatDoor
def Cb (r:Int):Bool:=Lib.isLetterU r&& !(r==65533)
def digitB (r:Int):Bool:=decide (48≤r)&&decide (r≤57)
def innerB (r:Int):Bool:=Cb r||digitB r||r==46||r==95
def okAt (pos:Nat) (r:Int):Bool:= !((pos==0&& !Cb r)|| !innerB r)
def qd (s:ByteArray):Nat→Nat→Bool
 |0,_=>true
 |f+1,pos=>if pos<s.size then okAt pos (Utf8.decode s pos).1&&qd s f (pos+(Utf8.decode s pos).2)else true
theorem nameFrom_end {s:ByteArray} {f pos:Nat} (h:¬pos<s.size):qd s f pos=true:=by
 cases f<;>simp[qd,h]
theorem nameFrom_yes {s:ByteArray} {f pos:Nat} (h:pos<s.size) (ho:okAt pos (Utf8.decode s pos).1=true):qd s (f+1) pos=qd s f (pos+(Utf8.decode s pos).2):=by
 simp[qd,h,ho]
theorem nameFrom_no {s:ByteArray} {f pos:Nat} (h:pos<s.size) (ho:okAt pos (Utf8.decode s pos).1=false):qd s (f+1) pos=false:=by
 simp[qd,h,ho]
theorem runes_step {s:ByteArray} {f pos:Nat} (h:pos<s.size):Lib.runeCountFrom s (f+1) pos=1+Lib.runeCountFrom s f (pos+(Utf8.decode s pos).2):=by
 simp[Lib.runeCountFrom,h]
def wy (s:ByteArray):Bool:=qd s s.size 0&&decide (s.size≠0)&&decide (Lib.runeCount s≤16)
end Go.Proofs.YtjllbchfojonhaaGreatDoor
