/- Rows of structs that a call makes anew: append of a row to an own row; an own row as a row. -/
import Derived.Test.YtjllbchfojonhaaGreatDoorB2
set_option linter.unusedVariables false
set_option linter.unusedSimpArgs false
set_option maxRecDepth 100000
set_option maxHeartbeats 200000000
namespace Go.Proofs.YtjllbchfojonhaaGreatDoor
open Go.RowKit
theorem flat_get {es:List (List Value)} {size:Nat} (hsz:∀l∈es,l.length=size) (q i:Nat) (hi:i<size):es.flatten[q*size+i]? =(es[q]?).bind fun l=>l[i]? :=by
 induction es generalizing q with
 |nil=>simp
 |cons l es ih=>
  have hl:l.length=size:=hsz l (List.mem_cons_self ..);rw[List.flatten_cons];cases q with
  |zero=>rw[Nat.zero_mul,Nat.zero_add,List.getElem?_append_left (by omega)];rfl
  |succ q=>
   rw[List.getElem?_append_right (by rw[hl,Nat.succ_mul];omega),show(q+1)*size+i -l.length=q*size+i by rw[hl,Nat.succ_mul];omega,ih (fun l h=>hsz l (List.mem_cons_of_mem _ h))];rfl
theorem flat_len {es:List (List Value)} {size:Nat} (hsz:∀l∈es,l.length=size):es.flatten.length=es.length*size:=by
 induction es with
 |nil=>simp
 |cons l es ih=>rw[List.flatten_cons,List.length_append,ih (fun l h=>hsz l (List.mem_cons_of_mem _ h)),hsz l (List.mem_cons_self ..),List.length_cons,Nat.succ_mul];omega
theorem flat_set {es:List (List Value)} {size:Nat} (hsz:∀l∈es,l.length=size) (q i:Nat) (hi:i<size) (hq:q<es.length) (u:Value):es.flatten.set (q*size+i) u=(es.set q (es[q]!.set i u)).flatten:=by
 induction es generalizing q with
 |nil=>cases hq
 |cons l es ih=>
  have hl:l.length=size:=hsz l (List.mem_cons_self ..);cases q with
  |zero=>rw[Nat.zero_mul,Nat.zero_add,List.flatten_cons,List.set_append_left _ _ (by omega)];rfl
  |succ q=>
   rw[List.flatten_cons,List.set_append_right _ _ (by rw[hl,Nat.succ_mul];omega),show(q+1)*size+i -l.length=q*size+i by rw[hl,Nat.succ_mul];omega,ih (fun l h=>hsz l (List.mem_cons_of_mem _ h)) q (by simpa using hq)];rfl
theorem zu {w:World} {base size n:Nat} {e:TypeId} {v:Value} {es:List (List Value)} (hsz:∀l∈es,l.length=size) (h0:0<size) (h:w.ownsRow base e size v n es.flatten):Row w size v es:=by
 have hlen:es.length=n:=by
  have h1:=h.1;rw[flat_len hsz]at h1;exact Nat.eq_of_mul_eq_mul_right h0 h1
 rcases h.2 with⟨rfl,h1⟩|⟨g,cap,cur,rfl,h2,h3,h4,h5,h6,h7⟩
 ·obtain rfl:es=[]:=List.eq_nil_of_length_eq_zero (by omega);exact⟨none,0,rfl,Nat.le_refl _,Nat.zero_le _,.inl rfl⟩
 ·refine⟨some ⟨g,0,none⟩,cap,by rw[hlen],by omega,h5,.inr ⟨g,0,rfl,Blk.lt (t:=e) h3,fun j l hj i x hx=> ?_⟩⟩;have hl:l.length=size:=hsz l (List.mem_of_getElem? hj);have hi:i<size:=(by rw[←hl];exact(List.getElem?_eq_some_iff.1 hx).1);have hjl:j<es.length:=(List.getElem?_eq_some_iff.1 hj).1;have hc:=flat_get hsz j i hi
  have hjn:j*size+i<n*size:=by
   have:(j+1)*size≤n*size:=Nat.mul_le_mul_right _ (by omega);rw[Nat.succ_mul]at this;omega
  rw[hj]at hc;simp only[Option.bind_some]at hc;rw[hx,←h7,List.getElem?_take,if_pos hjn,Array.getElem?_toList]at hc;rw[Blk.cell (t:=e) h3,Nat.zero_add];exact hc
theorem run_append_nil (w:World) (t ty e:TypeId) (i:TypeInfo) (h1:Tryz.prog.underlying t=some (.slice e)) (h2:Tryz.prog.info? e=some i) {base size n:Nat} {v:Value} {xs:List Value} (hown:w.ownsRow base e size v n xs) (c:Nat):
  (Builtin.append_ #[t,t] ty #[v,.slice none 0 c]).run Tryz.prog w= .ok v w:=by
 rcases hown.2 with⟨rfl,_⟩|⟨g,cap,cur,rfl,_,_,hn,_⟩
 ·simp[Builtin.append_,run_underlying h1,sizeOf,typeInfo,h2,Builtin.lenOf,Builtin.firstCells,loadCells,loadCellsFrom,storeCells]
 ·simp[Builtin.append_,run_underlying h1,sizeOf,typeInfo,h2,Builtin.lenOf,Builtin.firstCells,loadCells,loadCellsFrom,storeCells,hn]
theorem run_append_row (w:World) (t ty:TypeId) (base:Nat) (e:TypeId) (i:TypeInfo) (z:Value) (size bytes:Nat) (h1:Tryz.prog.underlying t=some (.slice e)) (h2:Tryz.prog.info? e=some i) (h3:i.zero=some z) (h4:i.size=size) (h5:i.bytes=bytes) (h6:z.cells.size=size) (h7:0<size)
  {v vx:Value} {n:Nat} {xs:List Value} {es:List (List Value)} (hown:w.ownsRow base e size v n xs) (hrow:Row w size vx es) (hsz:∀l∈es,l.length=size) (h1c:∀l∈es,∀u∈l,u.oneCell'=true)
  (b1:n+es.length≤maxLen) (b2:(n+es.length)*bytes≤140737488355328) (hb:base≤w.heap.size):
  ∃v' w',(Builtin.append_ #[t,t] ty #[v,vx]).run Tryz.prog w= .ok v' w'∧w'.ownsRow base e size v' (n+es.length) (xs++es.flatten)∧w.grownBy w' v.ownBlock:=by
 obtain⟨xa,c,rfl,r1,r2,r3⟩:=hrow
 have he:(∃ad,xa=some ad∧∀j u,es.flatten[j]? =some u→w.cell? (ad.add j)=some u)∨(xa=none∧es=[]):=by
  rcases r3 with r3|⟨b,off,rfl,_,hc⟩
  ·have he:=List.eq_nil_of_length_eq_zero r3;cases xa with
   |none=>exact .inr ⟨rfl,he⟩
   |some ad=>subst he;exact .inl ⟨ad,rfl,fun j u hu=>by simp at hu⟩
  ·refine .inl ⟨_,rfl,fun j u hu=> ?_⟩;have hm:=Nat.mod_lt j h7;have hj:j / size*size+j % size=j:=Nat.div_add_mod' j size;have hg:=flat_get hsz (j / size) (j % size) hm;rw[hj,hu]at hg;obtain⟨l,hl,hx⟩:=Option.bind_eq_some_iff.1 hg.symm;rw[add_plain];have:=hc (j / size) l hl (j % size) u hx
   rwa [show off+j / size*size+j % size=off+j by omega]at this
 rcases he with⟨ad,rfl,hc⟩|⟨rfl,rfl⟩
 ·obtain⟨v',w',q1,q2,q3,_⟩:=run_append_own (P:=Tryz.prog) w base t ty e i z size bytes h1 h2 h3 h4 h5 h6 h7 v n xs hown ad es.length c es.flatten (flat_len hsz) hc (fun u hu=>by obtain⟨l,hl,hu⟩:=List.mem_flatten.1 hu;exact h1c l hl u hu) b1 b2 hb;exact⟨v',w',q1,q2,q3⟩
 ·refine⟨v,w,run_append_nil w t ty e i h1 h2 hown c,by simpa using hown, ?_⟩;exact⟨rfl,rfl,rfl,Nat.le_refl _,fun _ _ _=>rfl⟩
theorem wp_append_row {o:Oper} {a:Act} {w:World} {K:Act→World→Prop} {Q:Exit→Act→World→Prop} (s x:Operand) (t:TypeId) (hop:o.op=Op.call {callee:=Callee.builtin Builtin.append,args:=#[s,x],argTypes:=#[t,t]}) (base:Nat)
  (e:TypeId) (i:TypeInfo) (z:Value) (size bytes:Nat) (h1:Tryz.prog.underlying t=some (.slice e)) (h2:Tryz.prog.info? e=some i) (h3:i.zero=some z) (h4:i.size=size) (h5:i.bytes=bytes) (h6:z.cells.size=size) (h7:0<size)
  (v:Value) (n:Nat) (xs:List Value) (hs:a.eval s=v) (hown:w.ownsRow base e size v n xs) (vx:Value) (es:List (List Value)) (hx:a.eval x=vx) (hrow:Row w size vx es) (hsz:∀l∈es,l.length=size) (h1c:∀l∈es,∀u∈l,u.oneCell'=true)
  (b1:n+es.length≤maxLen) (b2:(n+es.length)*bytes≤140737488355328) (hb:base≤w.heap.size)
  (hK:∀v' w',w'.ownsRow base e size v' (n+es.length) (xs++es.flatten)→w.grownBy w' v.ownBlock→K (a.put o.dst v') w'):o.wp Tryz.prog a w K Q:=by
 subst hs hx;obtain⟨v',w',hr,r1,r2⟩:=run_append_row w t o.type base e i z size bytes h1 h2 h3 h4 h5 h6 h7 hown hrow hsz h1c b1 b2 hb;unfold Oper.wp execOp;simp only[hop,resolve,invoke,builtin,Sem.run_bind,Sem.run_pure,Result.andThen_ok,List.map_toArray,List.map_cons,List.map_nil,hr];exact hK v' w' r1 r2
theorem jr {ops:Array Oper} {rest:List Oper} {o:Oper} {a:Act} {w:World} {Q:Exit→Act→World→Prop} (hg:o.guard=none) (s x:Operand) (t:TypeId) (hop:o.op=Op.call {callee:=Callee.builtin Builtin.append,args:=#[s,x],argTypes:=#[t,t]}) (base:Nat)
  (e:TypeId) (i:TypeInfo) (z:Value) (size bytes:Nat) (h1:Tryz.prog.underlying t=some (.slice e)) (h2:Tryz.prog.info? e=some i) (h3:i.zero=some z) (h4:i.size=size) (h5:i.bytes=bytes) (h6:z.cells.size=size) (h7:0<size)
  (v:Value) (n:Nat) (xs:List Value) (hs:a.eval s=v) (hown:w.ownsRow base e size v n xs) (vx:Value) (es:List (List Value)) (hx:a.eval x=vx) (hrow:Row w size vx es) (hsz:∀l∈es,l.length=size) (h1c:∀l∈es,∀u∈l,u.oneCell'=true)
  (b1:n+es.length≤maxLen) (b2:(n+es.length)*bytes≤140737488355328) (hb:base≤w.heap.size)
  (hK:∀v' w',w'.ownsRow base e size v' (n+es.length) (xs++es.flatten)→w.grownBy w' v.ownBlock→wpList Tryz.prog ops Q rest (a.put o.dst v') w'):wpList Tryz.prog ops Q (o::rest) a w:=
 wpList_plain hg fun _ hK'=>wp_append_row s x t hop base e i z size bytes h1 h2 h3 h4 h5 h6 h7 v n xs hs hown vx es hx hrow hsz h1c b1 b2 hb fun v' w' q1 q2=>hK' _ _ (hK v' w' q1 q2)
theorem Row.part {w:World} {size:Nat} {a:Option Addr} {n cap:Nat} {es:List (List Value)} (h:Row w size (.slice a n cap) es) (k m c:Nat) (hk:k+m≤n) (hc:m≤c) (hc2:c≤maxLen):Row w size (.slice (a.map (·.add (k*size))) m c) ((es.drop k).take m):=by
 obtain⟨a',cap',e,h1,h2,h3⟩:=h;simp only[Value.slice.injEq]at e;obtain⟨rfl,rfl,rfl⟩:=e;have hl:((es.drop k).take m).length=m:=(by rw[List.length_take,List.length_drop];omega);refine⟨_,c,by rw[hl],by rw[hl];exact hc,hc2, ?_⟩;rw[hl];rcases h3 with h3|⟨b,off,rfl,hb,hcell⟩
 ·exact .inl (by omega)
 ·refine .inr ⟨b,off+k*size,by rw[Option.map_some,add_plain],hb,fun j e he i x hx=> ?_⟩;rw[List.getElem?_take]at he;split at he
  ·rw[List.getElem?_drop]at he;have:=hcell (k+j) e he i x hx
   rwa [Nat.add_mul,←Nat.add_assoc]at this
  ·cases he
theorem own_empty {w:World} {b:Nat} {e:TypeId} {size:Nat} (h:Blk w b e #[]):w.ownsRow b e size (.slice (some ⟨b,0,none⟩) 0 0) 0 []:=
 ⟨by simp,.inr ⟨b,0,#[],rfl,Nat.le_refl _,h,Nat.le_refl _,by simp[maxLen],by simp,by simp⟩⟩
theorem yh {w:World} {base n size b:Nat} {e:TypeId} {v:Value} {xs:List Value} (h:w.ownsRow base e size v n xs) (hb:v.ownBlock=some b) (i:Nat) (x:Value):(w.setCell ⟨b,i,none⟩ x).ownsRow base e size v n (xs.set i x):=by
 refine⟨by rw[List.length_set];exact h.1, ?_⟩;rcases h.2 with⟨rfl,_⟩|⟨g,cap,cur,rfl,h2,h3,h4,h5,h6,h7⟩
 ·cases hb
 ·simp[Value.ownBlock]at hb;subst hb;refine .inr ⟨g,cap,cur.setIfInBounds i x,rfl,h2,(Blk.gu (t:=e) h3 i x),h4,h5,by rw[Array.size_setIfInBounds];exact h6, ?_⟩;rw[Array.toList_setIfInBounds,List.take_set,h7]
theorem zl {w:World} {base n size:Nat} {e:TypeId} {v:Value} {xs:List Value} (h:w.ownsRow base e size v n xs) (hn:0<n):∃g cap,v= .slice (some ⟨g,0,none⟩) n cap∧base≤g∧v.ownBlock=some g∧n≤cap∧cap≤maxLen∧g<w.heap.size∧(∀i,i<n*size→w.cell? ⟨g,i,none⟩=xs[i]?)∧∀i,w.frozen? ⟨g,i,none⟩=false:=by
 rcases h.2 with⟨_,h0⟩|⟨g,cap,cur,rfl,h2,h3,h4,h5,h6,h7⟩
 ·omega
 ·refine⟨g,cap,rfl,h2,rfl,h4,h5,Blk.lt (t:=e) h3,fun i hi=> ?_,fun i=>Blk.frozen (t:=e) h3 i⟩;rw[Blk.cell (t:=e) h3 i,←h7,List.getElem?_take,if_pos hi,Array.getElem?_toList]
theorem jw {w:World} {base n size b:Nat} {e:TypeId} {v:Value} {xs:List Value} (h:w.ownsRow base e size v n xs) (hb:v.ownBlock=some b) {i:Nat} (hi:i<n*size):w.cell? ⟨b,i,none⟩=xs[i]? ∧w.frozen? ⟨b,i,none⟩=false:=by
 rcases h.2 with⟨rfl,_⟩|⟨g,cap,cur,rfl,h2,h3,h4,h5,h6,h7⟩
 ·cases hb
 ·simp[Value.ownBlock]at hb;subst hb;refine⟨?_,Blk.frozen (t:=e) h3 i⟩;rw[Blk.cell (t:=e) h3 i,←h7,List.getElem?_take,if_pos hi,Array.getElem?_toList]
end Go.Proofs.YtjllbchfojonhaaGreatDoor
