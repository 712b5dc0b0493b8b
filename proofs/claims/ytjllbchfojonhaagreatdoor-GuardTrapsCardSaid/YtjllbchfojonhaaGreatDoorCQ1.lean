/- A program is copied: what the loops keep (plain facts of memory). -/
import Derived.Test.YtjllbchfojonhaaGreatDoorMG
import Derived.Test.YtjllbchfojonhaaGreatDoorGU
set_option linter.unusedVariables false
set_option linter.unusedSimpArgs false
set_option maxRecDepth 100000
set_option maxHeartbeats 200000000
namespace Go.Proofs.YtjllbchfojonhaaGreatDoor
open Go.RowKit
theorem sj {W:World} {g h:Nat} {t u:TypeId} {cs ds:Array Value} (a:Blk W g t cs) (b:Blk W h u ds) (ht:t≠u):g≠h:=fun e=>by
 subst e;unfold Blk at a b;rw[a]at b;simp only[Option.some.injEq,Obj.cells.injEq]at b;exact ht b.2.1
def TyK (T:TypeId) (W W':World):Prop:=∀b cs,Blk W b T cs→Blk W' b T cs
theorem TyK.refl (T:TypeId) (W:World):TyK T W W:=fun _ _ h=>h
theorem TyK.trans {T:TypeId} {A B C:World} (h:TyK T A B) (k:TyK T B C):TyK T A C:=fun b cs hb=>k b cs (h b cs hb)
theorem qy {T:TypeId} {W W':World} (k:ai W W' []):TyK T W W':=fun b cs h=>h.keep k (by simp)
theorem Dl {T:TypeId} {W W3:World} {b2 s2 n2:Nat} {e2:TypeId} {v2:Value} {x2:List Value} (hr:W.ownsRow b2 e2 s2 v2 n2 x2) (hne:e2≠T) (hg:W.grownBy W3 v2.ownBlock):TyK T W W3:=fun b cs h=>fq h hr hne hg
theorem ul {T t:TypeId} {W:World} {g i:Nat} {cs:Array Value} {u:Value} (hb:Blk W g t cs) (hne:t≠T):TyK T W (W.setCell ⟨g,i,none⟩ u):=fun b ds h=>
 h.keep ((ai.refl W [g]).setCell (.inl (by simp)) u) (by simp;exact fun e=>sj h hb (fun q=>hne q.symm) e)
theorem fe {T:TypeId} {W W':World} {base size n:Nat} {v:Value} {xs:List Value} (h:W.ownsRow base T size v n xs) (k:TyK T W W'):W'.ownsRow base T size v n xs:=by
 obtain⟨h1,h2|⟨g,cap,cur,e,h2,h3,h4⟩⟩:=h
 ·exact⟨h1,.inl h2⟩
 ·exact⟨h1,.inr ⟨g,cap,cur,e,h2,k g cur h3,h4⟩⟩
structure OwnZ (base:Nat) (W:World) (z:df):Prop where
 phis:W.ownsRow base 95 3 z.phis.1 z.phis.2.length (z.phis.2.map jk.cells).flatten
 phi:∀p∈z.phis.2,W.ownsRow base 3 1 p.args.1 p.args.2.length (p.args.2.map (Value.int .i64))∧W.ownsRow base 3 1 p.froms.1 p.froms.2.length (p.froms.2.map (Value.int .i64))
 insts:W.ownsRow base 43 4 z.insts.1 z.insts.2.length (z.insts.2.map cu.cells).flatten
 inst:∀x∈z.insts.2,W.ownsRow base 3 1 x.args.1 x.args.2.length (x.args.2.map (Value.int .i64))
theorem OwnZ.tk {base:Nat} {W W':World} {z:df} (h:OwnZ base W z) (k3:TyK 3 W W') (k43:TyK 43 W W') (k95:TyK 95 W W'):OwnZ base W' z:=
 ⟨fe h.phis k95,fun p hp=>⟨fe (h.phi p hp).1 k3,fe (h.phi p hp).2 k3⟩,fe h.insts k43,fun x hx=>fe (h.inst x hx) k3⟩
theorem OwnZ.keep {base:Nat} {W W':World} {z:df} (h:OwnZ base W z) (k:ai W W' []):OwnZ base W' z:=h.tk (qy k) (qy k) (qy k)
theorem OwnZ.low {base b:Nat} {W:World} {z:df} (h:OwnZ base W z) (hb:b≤base):OwnZ b W z:=
 ⟨dm h.phis hb,fun p hp=>⟨dm (h.phi p hp).1 hb,dm (h.phi p hp).2 hb⟩,dm h.insts hb,fun x hx=>dm (h.inst x hx) hb⟩
theorem info83:(Tryz.prog.info? 83).map (fun i=>(i.zero,i.size,i.bytes))=some (some (.agg #[.string ⟨#[]⟩,.int .i64 0]),2,24):=by kernel_rfl
theorem clone_varsR (v:Value) (l:List zi) (w:World) (hp:Row w 2 v (l.map zi.cells)) (hm:l.length≤100000):Calls Tryz.prog 71 #[v] w fun e w'=>(∃v',e= .returned v'∧w'.ownsRow w.heap.size 83 2 v' l.length (l.map zi.cells).flatten)∧ai w w' []:=by
 obtain⟨i0,hi,he⟩:=Option.map_eq_some_iff.1 info83;simp only[Prod.mk.injEq]at he;obtain⟨hz0,hz1,hz2⟩:=he;have HP:=ag hp;obtain⟨a,ca,rfl,hl1,hm1,hc1⟩:=hp.open_;clear hp hl1 hm1
 skip
 cases a with
 |none=>
  have hn:l.length=0:=(by rcases Nat.eq_zero_or_pos l.length with h|h;exact h;(obtain⟨b,off,e,_⟩:=hc1 0 h;cases e));obtain rfl:l=[]:=List.eq_nil_of_length_eq_zero hn;clear hc1 hn HP hm;rw[show([]:List zi).length=0 from rfl];have hx:∀w,Sem.run Tryz.prog (binOp BinOp.eql 22 (.slice none 0 ca) (.slice none 0 0)) w= .ok (.bool true) w:=(by intro w;rfl);go_enter Tryz.func71,Tryz.ntmps71;go_wp2;go_ret;exact⟨⟨_,rfl,World.ownsRow_nil _ _ _ _⟩,ai.refl _ _⟩
 |some ad=>
  have hx:∀w,Sem.run Tryz.prog (binOp BinOp.eql 22 (.slice (some ad) l.length ca) (.slice none 0 0)) w= .ok (.bool false) w:=(by intro w;rfl);have HLE:=ag (show(l.map zi.cells).length=l.length from List.length_map ..);clear hc1;go_enter Tryz.func71,Tryz.ntmps71;go_wp2_with (first |(at_builtin;go_must(refine jr rfl (.tmp 5) (.tmp 6) 22 rfl w.heap.size 83 i0 (.agg #[.string ⟨#[]⟩,.int .i64 0]) 2 24 Tryz.underlying22 hi hz0 hz1 hz2 rfl (by decide) (.slice (some ⟨w.heap.size,0,none⟩) 0 0) 0 [] rfl (own_empty (Blk.new w 83 #[])) (.slice (some ad) l.length ca) (l.map zi.cells) rfl (Row.keep HP.o ((ai.refl w []).alloc _)) (fun e he=>by obtain⟨x,_,rfl⟩:=List.mem_map.1 he;rfl) (fun e he u hu=>by obtain⟨x,_,rfl⟩:=List.mem_map.1 he;simp[zi.cells]at hu;rcases hu with rfl|rfl<;>rfl) (by rw[List.length_map];unfold maxLen;omega) (by rw[List.length_map];omega) (by rw[jh];omega) ?_);intro v1 w4 hown hgrow;have k3:=ag (((ai.refl w []).alloc (.cells #[] 83)).grown hgrow (fun k hk=>by simp[Value.ownBlock]at hk;exact .inr (by omega)));have OB:=ag hown;clear hown hgrow))
  go_ret;exact⟨⟨_,rfl,by have h9:=OB.o;rw[Nat.zero_add,HLE.o,List.nil_append]at h9;exact h9⟩,k3.out⟩
end Go.Proofs.YtjllbchfojonhaaGreatDoor
namespace Go.Proofs.YtjllbchfojonhaaGreatDoor
open Go.RowKit
structure CopyB (f:ax):Prop where
 nv:f.nv≤100000
 np:f.np≤100000
 nb:f.nb≤1000
 phi:∀b,b<f.nb→f.blocks.2[b]!.phis.2.length≤100000∧∀p∈f.blocks.2[b]!.phis.2,p.args.2.length≤100000∧p.froms.2.length≤100000
 ins:∀b,b<f.nb→f.blocks.2[b]!.insts.2.length≤100000∧∀x∈f.blocks.2[b]!.insts.2,x.args.2.length≤100000
def Apart (zs:List df):Prop:=∀j k,j<zs.length→k<zs.length→j≠k→∀q,zs[j]!.insts.1.ownBlock=some q→zs[k]!.insts.1.ownBlock≠some q
structure CopyRet (w w':World) (f c:ax):Prop where
 vars:w'.ownsRow w.heap.size 83 2 c.vars.1 c.nv (c.vars.2.map zi.cells).flatten
 pars:w'.ownsRow w.heap.size 3 1 c.params.1 c.np (c.params.2.map (Value.int .i64))
 rows:w'.ownsRow w.heap.size 38 7 c.blocks.1 c.nb (c.blocks.2.map df.cells).flatten
 own:∀b,b<c.nb→OwnZ w.heap.size w' c.blocks.2[b]!
 apart:Apart c.blocks.2
 same:xk (fun b=>f.blocks.2[b]!.insts.2) f c
theorem Dc {a b c:World} {g:Nat} (h:ai a b []) (k:ai b c [g]) (hg:a.heap.size≤g):ai a c []:=
 (h.trans k).mono fun x hx=>by simp at hx;subst hx;exact .inr hg
theorem Av {α:Type} [Inhabited α] (l:List α) (x:α) {k:Nat} (hk:k<l.length):(l++[x])[k]! =l[k]! :=by
 rw[getElem!_pos _ k (by simp;omega),getElem!_pos l k hk,List.getElem_append_left hk]
theorem Ci {α:Type} [Inhabited α] (l:List α) (x:α):(l++[x])[l.length]! =x:=by
 rw[getElem!_pos _ _ (by simp),List.getElem_append_right (Nat.le_refl _)];simp
structure PhiI (base:Nat) (W:World) (v:Value) (y:df) (qs:List jk):Prop where
 row:W.ownsRow base 95 3 v qs.length (qs.map jk.cells).flatten
 own:∀p∈qs,W.ownsRow base 3 1 p.args.1 p.args.2.length (p.args.2.map (Value.int .i64))∧W.ownsRow base 3 1 p.froms.1 p.froms.2.length (p.froms.2.map (Value.int .i64))
 le:qs.length≤y.phis.2.length
 same:∀k,k<qs.length→PhiS y.phis.2[k]! qs[k]!
theorem PhiI.tk {base:Nat} {W W':World} {v:Value} {y:df} {qs:List jk} (h:PhiI base W v y qs) (k3:TyK 3 W W') (k95:TyK 95 W W'):PhiI base W' v y qs:=
 ⟨fe h.row k95,fun p hp=>⟨fe (h.own p hp).1 k3,fe (h.own p hp).2 k3⟩,h.le,h.same⟩
theorem PhiI.keep {base:Nat} {W W':World} {v:Value} {y:df} {qs:List jk} (h:PhiI base W v y qs) (k:ai W W' []):PhiI base W' v y qs:=h.tk (qy k) (qy k)
theorem PhiI.snoc {base:Nat} {W W':World} {v v':Value} {y:df} {qs:List jk} (h:PhiI base W v y qs) (k3:TyK 3 W W') {q:jk} (hr:W'.ownsRow base 95 3 v' (qs.length+1) ((qs.map jk.cells).flatten++q.cells))
  (hq:W'.ownsRow base 3 1 q.args.1 q.args.2.length (q.args.2.map (Value.int .i64))∧W'.ownsRow base 3 1 q.froms.1 q.froms.2.length (q.froms.2.map (Value.int .i64))) (hl:qs.length<y.phis.2.length) (hs:PhiS y.phis.2[qs.length]! q):PhiI base W' v' y (qs++[q]):=by
 refine⟨by rw[List.length_append,List.map_append,List.flatten_append];simpa using hr,fun p hp=> ?_,by rw[List.length_append];exact hl,fun k hk=> ?_⟩
 ·rcases List.mem_append.1 hp with hp|hp
  ·exact⟨fe (h.own p hp).1 k3,fe (h.own p hp).2 k3⟩
  ·rw[List.mem_singleton.1 hp];exact hq
 ·rw[List.length_append,List.length_singleton]at hk;by_cases e:k=qs.length
  ·rw[e,Ci];exact hs
  ·rw[Av qs q (by omega)];exact h.same k (by omega)
structure InsI (base:Nat) (W:World) (v:Value) (ys:List cu) (xs:List cu):Prop where
 row:W.ownsRow base 43 4 v xs.length (xs.map cu.cells).flatten
 own:∀x∈xs,W.ownsRow base 3 1 x.args.1 x.args.2.length (x.args.2.map (Value.int .i64))
 le:xs.length≤ys.length
 same:∀k,k<xs.length→SameI xs[k]! ys[k]!
theorem InsI.tk {base:Nat} {W W':World} {v:Value} {ys xs:List cu} (h:InsI base W v ys xs) (k3:TyK 3 W W') (k43:TyK 43 W W'):InsI base W' v ys xs:=
 ⟨fe h.row k43,fun p hp=>fe (h.own p hp) k3,h.le,h.same⟩
theorem InsI.keep {base:Nat} {W W':World} {v:Value} {ys xs:List cu} (h:InsI base W v ys xs) (k:ai W W' []):InsI base W' v ys xs:=h.tk (qy k) (qy k)
theorem InsI.snoc {base:Nat} {W W':World} {v v':Value} {ys xs:List cu} (h:InsI base W v ys xs) (k3:TyK 3 W W') {x:cu} (hr:W'.ownsRow base 43 4 v' (xs.length+1) ((xs.map cu.cells).flatten++x.cells))
  (hq:W'.ownsRow base 3 1 x.args.1 x.args.2.length (x.args.2.map (Value.int .i64))) (hl:xs.length<ys.length) (hs:SameI x ys[xs.length]!):InsI base W' v' ys (xs++[x]):=by
 refine⟨by rw[List.length_append,List.map_append,List.flatten_append];simpa using hr,fun p hp=> ?_,by rw[List.length_append];exact hl,fun k hk=> ?_⟩
 ·rcases List.mem_append.1 hp with hp|hp
  ·exact fe (h.own p hp) k3
  ·rw[List.mem_singleton.1 hp];exact hq
 ·rw[List.length_append,List.length_singleton]at hk;by_cases e:k=xs.length
  ·rw[e,Ci];exact hs
  ·rw[Av xs x (by omega)];exact h.same k (by omega)
structure CopyI (W0 W:World) (L3:Nat) (vv pv bv:Value) (f:ax) (zs:List df):Prop where
 box:Blk W L3 26 #[vv,pv,bv]
 ov:W.ownsRow W0.heap.size 83 2 vv f.nv (f.vars.2.map zi.cells).flatten
 op:W.ownsRow W0.heap.size 3 1 pv f.np (f.params.2.map (Value.int .i64))
 rows:W.ownsRow W0.heap.size 38 7 bv zs.length (zs.map df.cells).flatten
 own:∀k,k<zs.length→OwnZ W0.heap.size W zs[k]!
 apart:Apart zs
 same:∀k,k<zs.length→BlkS f.blocks.2[k]!.insts.2 f.blocks.2[k]! zs[k]!
 low:W0.heap.size≤L3
 k:ai W0 W []
section
variable {W0 W W':World} {L3:Nat} {vv pv bv bv':Value} {f:ax} {zs:List df}
theorem CopyI.keep (h:CopyI W0 W L3 vv pv bv f zs) (k:ai W W' []):CopyI W0 W' L3 vv pv bv f zs:=
 ⟨h.box.keep k (by simp),au h.ov k (by simp),au h.op k (by simp),au h.rows k (by simp),fun j hj=>(h.own j hj).keep k,h.apart,h.same,h.low,h.k.ak k⟩
theorem CopyI.snoc {o:Obj} {W3:World} (h:CopyI W0 W L3 vv pv bv f zs) {z:df} (hz:OwnZ W0.heap.size W z) (hf:∀q,z.insts.1.ownBlock=some q→∀k,k<zs.length→zs[k]!.insts.1.ownBlock≠some q)
  (hs:BlkS f.blocks.2[zs.length]!.insts.2 f.blocks.2[zs.length]! z) (hg:(W.alloc o).grownBy W3 bv.ownBlock) (hr:W3.ownsRow W0.heap.size 38 7 bv' (zs.length+1) ((zs.map df.cells).flatten++z.cells)):
  CopyI W0 (W3.setCell ⟨L3,2,none⟩ bv') L3 vv pv bv' f (zs++[z]):=by
 have ka:ai W (W.alloc o) []:=(ai.refl W []).alloc o;have hrow:=au h.rows ka (by simp);have hb3:Blk W3 L3 26 #[vv,pv,bv]:=fq (h.box.keep ka (by simp)) hrow (by decide) hg;have T:∀t:TypeId,t≠38→t≠26→TyK t W (W3.setCell ⟨L3,2,none⟩ bv'):=fun t h1 h2=>((qy ka).trans (Dl hrow (fun e=>h1 e.symm) hg)).trans (ul hb3 (fun e=>h2 e.symm));refine⟨hb3.gu 2 bv',fe h.ov (T 83 (by decide) (by decide)),fe h.op (T 3 (by decide) (by decide)), ?_,fun j hj=> ?_,fun a b ha hb hne q hq=> ?_,fun j hj=> ?_,h.low, ?_⟩
 ·rw[List.length_append,List.map_append,List.flatten_append];have h9:=fe hr (ul (T:=38) (i:=2) (u:=bv') hb3 (by decide))
  simpa using h9
 ·rw[List.length_append,List.length_singleton]at hj;have T3:=T 3 (by decide) (by decide);have T43:=T 43 (by decide) (by decide);have T95:=T 95 (by decide) (by decide);by_cases e:j=zs.length
  ·rw[e,Ci];exact hz.tk T3 T43 T95
  ·rw[Av zs z (by omega)];exact(h.own j (by omega)).tk T3 T43 T95
 ·rw[List.length_append,List.length_singleton]at ha hb;by_cases ea:a=zs.length
  ·rw[ea,Ci]at hq;rw[Av zs z (by omega)];exact hf q hq b (by omega)
  ·rw[Av zs z (by omega)]at hq;by_cases eb:b=zs.length
   ·rw[eb,Ci];intro hq2;exact hf q hq2 a (by omega) hq
   ·rw[Av zs z (by omega)];exact h.apart a b (by omega) (by omega) hne q hq
 ·rw[List.length_append,List.length_singleton]at hj;by_cases e:j=zs.length
  ·rw[e,Ci];exact hs
  ·rw[Av zs z (by omega)];exact h.same j (by omega)
 ·exact(ui h.k h.rows (Nat.le_refl _) hg).setCell (.inr h.low) _
end
end Go.Proofs.YtjllbchfojonhaaGreatDoor
