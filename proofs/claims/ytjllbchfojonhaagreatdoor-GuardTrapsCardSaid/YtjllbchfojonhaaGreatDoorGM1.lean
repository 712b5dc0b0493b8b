/- guard.Make: what its walk wants (plain facts). -/
import Derived.Test.YtjllbchfojonhaaGreatDoorGM0
import Derived.Test.YtjllbchfojonhaaGreatDoorCN
set_option linter.unusedVariables false
set_option linter.unusedSimpArgs false
set_option maxRecDepth 100000
set_option maxHeartbeats 200000000
namespace Go.Proofs.YtjllbchfojonhaaGreatDoor
open Go.RowKit
open Classical in
theorem gdD_is {f:ax} {b j:Nat} (h:ou f b j=true):GuardP f b j:=of_decide_eq_true h
theorem ty_both {f:ax} (h:jf f=0):(fw f&&qm f)=true:=by
 unfold jf at h;split at h
 ·assumption
 ·cases h
theorem take_bang (l R:List cu) (j:Nat) (hj:j<l.length):l.take (j+1)++R=l.take j++(l[j]! ::R):=by
 rw[List.take_succ_eq_append_getElem hj,getElem!_pos l j hj,List.append_assoc];rfl
theorem insL_at (l R:List cu) (j:Nat) (hj:j<l.length):insL (l.take (j+1)++R) j=l.take j++(su l[j]! ::l[j]! ::R):=by
 rw[take_bang l R j hj];have hl:(l.take j).length=j:=(by rw[List.length_take];omega);unfold insL;rw[List.take_append_of_le_length (by omega),List.take_of_length_le (by omega),List.drop_append_of_le_length (by omega),List.drop_of_length_le (by omega),getElem!_pos _ j (by simp;omega),List.getElem_append_right (by omega)];simp[hl]
theorem foldr_lack (lk:Nat→Bool) (l:List cu):∀(j:Nat) (R:List cu),j≤l.length→((List.range j).filter lk).foldr (fun i l=>insL l i) (l.take j++R)=mkL lk l j++R:=fun j=>by
 induction j with
 |zero=>intro R _;simp[mkL]
 |succ j ih=>
  intro R hj;rw[List.range_succ,List.filter_append,List.foldr_append,yj];cases h:lk j with
  |true=>
   rw[List.filter_cons_of_pos h];simp only[List.filter_nil,List.foldr_cons,List.foldr_nil];rw[insL_at l R j (by omega),ih _ (by omega)];unfold mkO;rw[if_pos h];simp
  |false=>
   rw[List.filter_cons_of_neg (by rw[h];decide)];simp only[List.filter_nil,List.foldr_nil];rw[take_bang l R j (by omega),ih _ (by omega)];unfold mkO;rw[if_neg (by rw[h];decide)];simp
def stepP (b:Nat) (p:Nat×Nat) (l:List cu):List cu:=if p.1=b then insL l p.2 else l
theorem step_no (b:Nat):∀(ps:List (Nat×Nat)) (l:List cu),(∀p∈ps,p.1≠b)→ps.foldr (stepP b) l=l
 |[],l,_=>rfl
 |p::ps,l,h=>by
  rw[List.foldr_cons,step_no b ps l fun q hq=>h q (List.mem_cons_of_mem _ hq)];unfold stepP;rw[if_neg (h p (by simp))]
theorem step_map (b:Nat):∀(is:List Nat) (l:List cu),(is.map fun i=>(b,i)).foldr (stepP b) l=is.foldr (fun i l=>insL l i) l
 |[],l=>rfl
 |i::is,l=>by
  rw[List.map_cons,List.foldr_cons,List.foldr_cons,step_map b is l];unfold stepP;rw[if_pos rfl]
theorem step_all (b:Nat) (F:Nat→List (Nat×Nat)) (hF:∀a,∀p∈F a,p.1=a):∀(m:Nat) (l:List cu),((List.range m).flatMap F).foldr (stepP b) l=if b<m then(F b).foldr (stepP b) l else l:=fun m=>by
 induction m with
 |zero=>intro l;simp
 |succ m ih=>
  intro l;rw[List.range_succ,List.flatMap_append,List.foldr_append];rw[show[m].flatMap F=F m by simp];rw[ih];by_cases e:b=m
  ·subst e;rw[if_neg (by omega),if_pos (by omega)]
  ·rw[step_no b (F m) l fun p hp h=>e (by rw[←h,hF m p hp])];by_cases h:b<m
   ·rw[if_pos h,if_pos (by omega)]
   ·rw[if_neg h,if_neg (by omega)]
theorem fin_bang {β γ:Type} [Inhabited β] (zs:List β) (s:β→γ→γ) (l:γ):(List.finRange zs.length).foldr (fun x l=>s zs[x.1]! l) l=zs.foldr s l:=by
 have:(List.finRange zs.length).map (fun x=>zs[x.1]!)=zs:=by
  refine List.ext_getElem (by simp) fun i h1 h2=> ?_;rw[List.getElem_map,getElem!_pos zs _ (by simpa using h2)];simp
 conv=>rhs;rw[←this]
 rw[List.foldr_map]
theorem contE_made {f:ax} (hT:jf f=0) {b:Nat} (hb:b<f.nb):Bh f (iy f) (List.finRange (iy f).length).reverse b=rq f b:=by
 unfold Bh;rw[List.foldl_reverse];refine(fin_bang (iy f) (stepP b) f.blocks.2[b]!.insts.2).trans ?_;unfold iy;rw[if_pos hT];unfold mo
 rw [show Bv f f.nb 0 = [] by simp [Bv], List.append_nil, step_all b _ (fun a p hp => by
  unfold Bv at hp;obtain⟨i,_,rfl⟩:=List.mem_map.1 hp
  rfl),if_pos hb]
 unfold Bv;rw[step_map];have:=foldr_lack (fun j=> !ou f b j) f.blocks.2[b]!.insts.2 f.blocks.2[b]!.insts.2.length [] (Nat.le_refl _);rw[List.take_length,List.append_nil,List.append_nil]at this;exact this
theorem mkL_len (lk:Nat→Bool) (l:List cu):∀j,(mkL lk l j).length=j+((List.range j).filter lk).length:=fun j=>by
 induction j with
 |zero=>rfl
 |succ j ih=>
  rw[yj,List.length_append,ih,List.range_succ,List.filter_append,List.length_append];cases h:lk j with
  |true=>rw[List.filter_cons_of_pos h];unfold mkO;rw[if_pos h];simp;omega
  |false=>rw[List.filter_cons_of_neg (by rw[h];decide)];unfold mkO;rw[if_neg (by rw[h];decide)];simp;omega
theorem lackTo_len (f:ax) (b j:Nat):(mo f b j).length=(mo f b 0).length+((List.range j).filter fun i=> !ou f b i).length:=by
 unfold mo Bv;simp
theorem made_len (f:ax) (b:Nat):(rq f b).length=f.blocks.2[b]!.insts.2.length+((List.range f.blocks.2[b]!.insts.2.length).filter fun i=> !ou f b i).length:=mkL_len _ _ _
theorem made_sumK {f g:ax} (h:xk (rq f) f g):∀k,k≤f.nb→Ct (g.blocks.2.take k)=phT f k+inT f k+(mo f k 0).length:=fun k=>by
 induction k with
 |zero=>intro _;simp[Ct,phT,inT,mo,Bv]
 |succ k ih=>
  intro hk;have hg:g.blocks.2.length=f.nb:=h.nb;rw[bsum_snoc _ _ (by omega),ih (by omega),phT_step f k hk,inT_step f k hk,lack_next,lackTo_len f k f.blocks.2[k]!.insts.2.length,(h.blk k hk).plen,(h.blk k hk).ilen,made_len];omega
theorem made_sum {f g:ax} (hT:jf f=0) (h:xk (rq f) f g):Ct g.blocks.2=phT f f.nb+inT f f.nb+(iy f).length:=by
 have:=made_sumK h f.nb (Nat.le_refl _);have hg:g.blocks.2.length=f.nb:=h.nb;rw[←hg,List.take_length,hg]at this;rw[this];unfold iy;rw[if_pos hT]
section
variable {f g:ax}
theorem nvS {Y:Nat→List cu} (h:xk Y f g):g.nv=f.nv:=by unfold ax.nv;rw[h.vars]
theorem npS {Y:Nat→List cu} (h:xk Y f g):g.np=f.np:=by unfold ax.np;rw[h.params]
theorem tyS {Y:Nat→List cu} (h:xk Y f g):g.ty=f.ty:=by funext k;unfold ax.ty;rw[h.vars]
theorem tyIS {Y:Nat→List cu} (h:xk Y f g):g.tyI=f.tyI:=by funext k;unfold ax.tyI;rw[tyS h]
theorem instB_same {x y:cu} (hn:g.nv=f.nv) (h:SameI x y):lg g x=lg f y:=by
 unfold lg;rw[h.1,h.2.1,h.2.2.1,h.2.2.2,hn]
theorem tinstB_same {x y:cu} (hn:g.tyI=f.tyI) (h:SameI x y):lh g x=lh f y:=by
 unfold lh;rw[h.1,h.2.1,h.2.2.1,hn]
theorem phiB_same {p q:jk} (hn:g.nv=f.nv) (hb:g.nb=f.nb) (h:PhiS p q):xz g q=xz f p:=by
 unfold xz;rw[h.1,h.2.1,h.2.2,hn,hb]
theorem tphiB_same {p q:jk} (hn:g.tyI=f.tyI) (h:PhiS p q):zt g q=zt f p:=by
 unfold zt;rw[h.1,h.2.1,hn]
theorem raw_some {x:cu} (h0:0≤x.op∧x.op<27) (hl:x.args.2.length=ntk x.op) (hr:inL rf x.op=true):
  ∃c d:Nat,(su x).op=c∧17≤c∧c<25∧(su x).args.2.length=ntk c∧mk1 c=false∧(∀i,i<ntk c→i+d<x.args.2.length∧(su x).args.2[i]! =x.args.2[i+d]! ∧tkT c i=tkT x.op (i+d))∧x.op≠1:=by
 generalize hk:x.op.toNat=k at*;have hxk:x.op=(k:Int):=(by omega);have e0:(su x).op=(ik k).1:=(by unfold su;rw[hk]);have e1:(su x).args.2=(x.args.2.drop (ik k).2.1).take (ik k).2.2:=by unfold su iq;rw[hk]
 have hat:∀i,i<(ik k).2.2→i+(ik k).2.1<x.args.2.length→(su x).args.2[i]! =x.args.2[i+(ik k).2.1]! :=fun i hi h2=>by
  rw[e1,getElem!_pos _ i (by rw[List.length_take,List.length_drop];omega),getElem!_pos x.args.2 (i+(ik k).2.1) h2,List.getElem_take,List.getElem_drop]
  congr 1;omega
 have hlen:(su x).args.2.length=min (ik k).2.2 (x.args.2.length -(ik k).2.1):=(by rw[e1,List.length_take,List.length_drop]);rw[hxk]at hl hr ⊢;have hl2:x.args.2.length=(dh k).size:=(by rw[hl];unfold ntk;rw[Int.toNat_natCast]);rcases Ak (k:=k) (by omega) hr with rfl|rfl|rfl|rfl|rfl|rfl
 ·refine⟨20,1,e0,by decide,by decide,by rw[hlen,hl2];decide,by decide,fun i hi=> ?_,by decide⟩;have hi0:i<1:=hi;have h2:i+1<x.args.2.length:=(by rw[hl2];show i+1<2;omega);exact⟨h2,hat i hi0 h2,by rw[show i=0 by omega];decide⟩
 ·refine⟨20,1,e0,by decide,by decide,by rw[hlen,hl2];decide,by decide,fun i hi=> ?_,by decide⟩;have hi0:i<1:=hi;have h2:i+1<x.args.2.length:=(by rw[hl2];show i+1<2;omega);exact⟨h2,hat i hi0 h2,by rw[show i=0 by omega];decide⟩
 ·refine⟨19,0,e0,by decide,by decide,by rw[hlen,hl2];decide,by decide,fun i hi=> ?_,by decide⟩;have hi0:i<1:=hi;have h2:i+0<x.args.2.length:=(by rw[hl2];show i+0<1;omega);exact⟨h2,hat i hi0 h2,by rw[show i=0 by omega];decide⟩
 ·refine⟨18,0,e0,by decide,by decide,by rw[hlen,hl2];decide,by decide,fun i hi=> ?_,by decide⟩;have hi0:i<2:=hi;have h2:i+0<x.args.2.length:=(by rw[hl2];show i+0<2;omega);exact⟨h2,hat i hi0 h2,by rcases(show i=0∨i=1 by omega)with rfl|rfl<;>decide⟩
 ·refine⟨18,0,e0,by decide,by decide,by rw[hlen,hl2];decide,by decide,fun i hi=> ?_,by decide⟩;have hi0:i<2:=hi;have h2:i+0<x.args.2.length:=(by rw[hl2];show i+0<3;omega);exact⟨h2,hat i hi0 h2,by rcases(show i=0∨i=1 by omega)with rfl|rfl<;>decide⟩
 ·refine⟨24,0,e0,by decide,by decide,by rw[hlen,hl2];decide,by decide,fun i hi=> ?_,by decide⟩;have hi0:i<1:=hi;have h2:i+0<x.args.2.length:=(by rw[hl2];show i+0<1;omega);exact⟨h2,hat i hi0 h2,by rw[show i=0 by omega];decide⟩
theorem need_inst {x:cu} (h:lg f x=true) (hr:inL rf x.op=true):lg f (su x)=true:=by
 obtain⟨h0,hl,ha,hd⟩:=Cq h;obtain⟨c,d,e,h1,h2,h3,h4,h5,_⟩:=raw_some h0 hl hr;have hdst:(su x).dst= -1:=rfl;have hnum:(su x).num=0:=rfl
 have h6:(su x).args.2.all (inB · f.nv)=true:=nu fun j hj=>by
  obtain⟨q1,q2,_⟩:=h5 j (by rw[←h3];exact hj);rw[q2];exact ha _ (az q1)
 unfold lg;rw[e,hdst,hnum,h6,h3,h4];simp;omega
theorem need_tinst {x:cu} (h:lg f x=true) (ht:lh f x=true) (hr:inL rf x.op=true):lh f (su x)=true:=by
 obtain⟨h0,hl,ha,hd⟩:=Cq h;obtain⟨c,d,e,h1,h2,h3,h4,h5,h6⟩:=raw_some h0 hl hr;unfold lh at ht ⊢;rw[if_neg h6]at ht;rw[e,if_neg (show ¬((c:Int)=1) by omega),h4];rw[Bool.and_eq_true,uz]at ht;simp only[Bool.not_false,Bool.true_or,Bool.and_true,uz,beq_iff_eq]at ht ⊢;intro i hi;obtain⟨q1,q2,q3⟩:=h5 i hi;rw[q2,q3];exact ht.1 _ (by rw[←hl];exact q1)
theorem made_inst (hT:jf f=0) {b:Nat} (hb:b<f.nb) {k:Nat} (hk:k<(rq f b).length):lg f (rq f b)[k]! =true∧lh f (rq f b)[k]! =true:=by
 have hs:fw f=true∧qm f=true:=(by have:=ty_both hT;rwa [Bool.and_eq_true]at this);have hI:=(ru hs.1 _ (az (l:=f.blocks.2) hb)).2.1
 have hY:∀x∈f.blocks.2[b]!.insts.2,lh f x=true:=by
  have h9:=List.all_eq_true.1 hs.2 _ (az (l:=f.blocks.2) hb);unfold ng at h9;simp only[Bool.and_eq_true,List.all_eq_true]at h9;exact h9.1.2
 obtain⟨j,hj,hc⟩:=mkL_at _ _ _ k hk;have hm:=az hj
 have hlk:(!ou f b j)=true→inL rf f.blocks.2[b]!.insts.2[j]!.op=true:=fun h=>by
  cases hr:inL rf f.blocks.2[b]!.insts.2[j]!.op with
  |true=>rfl
  |false=>rw[Ar (f:=f) (b:=b) (pl:=j) (.inl hr)]at h;cases h
 unfold rq;rcases hc with⟨_,_,e⟩|⟨hl,_,e⟩|⟨_,_,e⟩
 ·rw[e];exact⟨hI _ hm,hY _ hm⟩
 ·rw[e];exact⟨need_inst (hI _ hm) (hlk hl),need_tinst (hI _ hm) (hY _ hm) (hlk hl)⟩
 ·rw[e];exact⟨hI _ hm,hY _ hm⟩
theorem made_names (h:xk (rq f) f g):yf g=yf f:=by
 have hb:xh g=xh f:=by
  unfold xh;exact(list_ext_bang (show f.blocks.2.length=g.blocks.2.length from h.nb.symm) fun k hk=>(h.blk k hk).name.symm).symm
 unfold yf yx;rw[hb,h.vars,h.params,nvS h,npS h,h.nb]
theorem made_blocks (hT:jf f=0) (h:xk (rq f) f g):g.blocks.2.all (ow g)=true∧qm g=true:=by
 have hs:fw f=true∧qm f=true:=by have:=ty_both hT;rwa [Bool.and_eq_true]at this
 have hB:∀b,b<g.blocks.2.length→ow g g.blocks.2[b]! =true∧ng g g.blocks.2[b]! =true:=fun b hb=>by
  have hb:b<f.nb:=(by rw[←h.nb];exact hb);have hz:=h.blk b hb;obtain⟨hP,hI,hE⟩:=ru hs.1 _ (az (l:=f.blocks.2) hb);have h9:=List.all_eq_true.1 hs.2 _ (az (l:=f.blocks.2) hb);unfold ng at h9;simp only[Bool.and_eq_true,List.all_eq_true]at h9;unfold ow ng;simp only[Bool.and_eq_true];refine⟨⟨⟨nu fun k hk=> ?_,nu fun k hk=> ?_⟩, ?_⟩,⟨nu fun k hk=> ?_,nu fun k hk=> ?_⟩, ?_⟩
  ·rw[hz.plen]at hk;rw[phiB_same (nvS h) h.nb (hz.phi k hk)];exact hP _ (az hk)
  ·rw[hz.ilen]at hk;rw[instB_same (nvS h) (hz.ins k hk)];exact(made_inst hT hb hk).1
  ·rw[hz.kind,hz.var,hz.to0,hz.to1];unfold qi at hE ⊢;rw[nvS h,h.nb];exact hE
  ·rw[hz.plen]at hk;rw[tphiB_same (tyIS h) (hz.phi k hk)];exact h9.1.1 _ (az hk)
  ·rw[hz.ilen]at hk;rw[tinstB_same (tyIS h) (hz.ins k hk)];exact(made_inst hT hb hk).2
  ·have h8:=h9.2;unfold Ai wu at h8 ⊢;rw[hz.kind,hz.var,hz.to0,hz.to1,tyS h];exact h8
 exact⟨nu fun b hb=>(hB b hb).1,nu fun b hb=>(hB b hb).2⟩
theorem made_shaped (hT:jf f=0) (h:xk (rq f) f g):fw g=decide (phT f f.nb+inT f f.nb+(iy f).length≤1024):=by
 have hs:fw f=true∧qm f=true:=(by have:=ty_both hT;rwa [Bool.and_eq_true]at this);have hn:yf f=true:=(by have:=hs.1;unfold fw at this;rw[Bool.and_eq_true]at this;exact this.1);unfold fw;rw[made_names h,hn,(made_blocks hT h).1,made_sum hT h];simp
theorem typed_nb (hT:jf f=0):0<f.nb:=by
 have hs:fw f=true∧qm f=true:=(by have:=ty_both hT;rwa [Bool.and_eq_true]at this);have h:=hs.1;unfold fw yf at h;simp only[Bool.and_eq_true,decide_eq_true_eq]at h;omega
theorem made_few (hf:Cs f=true) (h:xk (rq f) f g):yu g:=by
 have hF:=few_p hf;unfold Cs at hf;split at hf
 ·cases hf
 obtain⟨z,hz⟩:=Option.isSome_iff_exists.1 hf;obtain⟨n,_,hn⟩:=Option.bind_eq_some_iff.1 hz;refine⟨by rw[nvS h];exact hF.nv,by rw[h.nb];exact hF.nb,by rw[npS h];exact hF.np,fun z hz=> ?_⟩
 obtain⟨b,hb,rfl⟩:∃b,b<g.blocks.2.length∧g.blocks.2[b]! =z:=by
  obtain⟨j,hj,e⟩:=List.mem_iff_getElem.1 hz;exact⟨j,hj,by rw[getElem!_pos g.blocks.2 j hj];exact e⟩
 have hb:b<f.nb:=(by rw[←h.nb];exact hb);have h4:=fewBl_all _ n (by rw[hn];rfl) _ (az (l:=f.blocks.2) hb)
 have hl:((List.range f.blocks.2[b]!.insts.2.length).filter fun i=> !ou f b i).length≤f.blocks.2[b]!.insts.2.length:=by
  refine Nat.le_trans (List.length_filter_le ..) ?_;simp
 rw[(h.blk b hb).plen,(h.blk b hb).ilen,made_len];omega
end
theorem lackTo_le (f:ax) (hfew:yu f):∀k,k≤f.nb→(mo f k 0).length≤1000*k:=fun k=>by
 induction k with
 |zero=>intro _;simp[mo,Bv]
 |succ k ih=>
  intro hk;have h1:=ih (by omega);have h2:=(hfew.block _ (az (l:=f.blocks.2) (k:=k) (show k<f.blocks.2.length from by show k<f.nb;omega))).2;rw[lack_next,lackTo_len]
  have hl:((List.range f.blocks.2[k]!.insts.2.length).filter fun i=> !ou f k i).length≤f.blocks.2[k]!.insts.2.length:=by
   refine Nat.le_trans (List.length_filter_le ..) ?_;simp
  omega
theorem pl_ok {f:ax} (hT:jf f=0) (hfew:yu f):PlOK f (iy f):=by
 refine⟨fun b hb x hx=> ?_, ?_,fun k hk=> ?_⟩
 ·obtain⟨j,hj,e⟩:=List.mem_iff_getElem.1 hx;have:=inst_ok hT hb hj;rw[getElem!_pos _ j hj,e]at this;exact this
 ·unfold iy;rw[if_pos hT];have:=lackTo_le f hfew f.nb (Nat.le_refl _);have:=hfew.nb;omega
 ·have hm:=az hk
  revert hm
  generalize(iy f)[k]! =p;intro hm;unfold iy at hm;rw[if_pos hT]at hm;unfold mo at hm;rw[show Bv f f.nb 0=[] by simp[Bv],List.append_nil]at hm;obtain⟨b,hb,hp⟩:=List.mem_flatMap.1 hm;unfold Bv at hp;obtain⟨j,hj,rfl⟩:=List.mem_map.1 hp;exact⟨List.mem_range.1 hb,List.mem_range.1 (List.mem_filter.1 hj).1⟩
end Go.Proofs.YtjllbchfojonhaaGreatDoor
namespace Go.Proofs.YtjllbchfojonhaaGreatDoor
open Go.RowKit
theorem inst_one {base:Nat} {W:World} {z:df} (h:OwnZ base W z) (x:cu) (hx:x∈z.insts.2) (u:Value) (hu:u∈x.cells):u.oneCell'=true:=by
 obtain⟨a,c,e,-,-⟩:=cr (h.inst x hx);unfold cu.cells at hu;rw[e]at hu;simp at hu;rcases hu with rfl|rfl|rfl|rfl<;>rfl
theorem sum_le {f:ax} (hfew:yu f):∀k,k≤f.nb→phT f k≤1000*k∧inT f k≤1000*k:=fun k=>by
 induction k with
 |zero=>intro _;simp[phT,inT]
 |succ k ih=>
  intro hk;obtain⟨h1,h2⟩:=ih (by omega);have h3:=hfew.block _ (az (l:=f.blocks.2) (k:=k) (show k<f.blocks.2.length from hk));rw[phT_step f k hk,inT_step f k hk];omega
theorem fewPh_all:∀(l:List jk) (n:Nat),(Cr l n).isSome=true→∀p∈l,p.args.2.length≤400∧p.froms.2.length≤400
 |[],_,_=>by simp
 |p::l,n,h=>fun q hq=>by
  unfold Cr at h;split at h
  ·cases h
  ·rcases List.mem_cons.1 hq with rfl|hq
   ·omega
   ·exact fewPh_all l _ h q hq
theorem fewIn_all:∀(l:List cu) (n:Nat),(Bw l n).isSome=true→∀p∈l,p.args.2.length≤400
 |[],_,_=>by simp
 |p::l,n,h=>fun q hq=>by
  unfold Bw at h;split at h
  ·cases h
  ·rcases List.mem_cons.1 hq with rfl|hq
   ·omega
   ·exact fewIn_all l _ h q hq
theorem fewBl_args:∀(l:List df) (n:Nat),(Ag l n).isSome=true→∀b∈l,(∀p∈b.phis.2,p.args.2.length≤400∧p.froms.2.length≤400)∧∀x∈b.insts.2,x.args.2.length≤400
 |[],_,_=>by simp
 |b::l,n,h=>fun c hc=>by
  unfold Ag Bo at h;split at h
  ·cases h
  ·obtain⟨z,hz⟩:=Option.isSome_iff_exists.1 h;obtain⟨m,h1,hm⟩:=Option.bind_eq_some_iff.1 hz;obtain⟨m2,h2,hm2⟩:=Option.bind_eq_some_iff.1 hm;split at hm2
   ·cases hm2
   ·rcases List.mem_cons.1 hc with rfl|hc
    ·exact⟨fewPh_all _ _ (by rw[h1];rfl),fewIn_all _ _ (by rw[h2];rfl)⟩
    ·exact fewBl_args l m2 (by rw[hm2];rfl) c hc
theorem copy_few {f:ax} (h:Cs f=true):CopyB f:=by
 have hF:=few_p h;unfold Cs at h;split at h
 ·cases h
 obtain⟨z,hz⟩:=Option.isSome_iff_exists.1 h;obtain⟨n,_,hn⟩:=Option.bind_eq_some_iff.1 hz;have h4:=fewBl_args _ n (by rw[hn];rfl);have hnv:=hF.nv;have hnp:=hF.np;have hnb:=hF.nb;refine⟨by omega,by omega,by omega,fun b hb=> ?_,fun b hb=> ?_⟩
 ·have hm:=az (l:=f.blocks.2) hb;have h5:=hF.block _ hm;exact⟨by omega,fun p hp=>by have:=(h4 _ hm).1 p hp;omega⟩
 ·have hm:=az (l:=f.blocks.2) hb;have h5:=hF.block _ hm;exact⟨by omega,fun p hp=>by have:=(h4 _ hm).2 p hp;omega⟩
theorem GmI.of_copy {w w' W:World} {L9:Nat} {f c:ax} {zs:List (Nat×Nat)} (h:CopyRet w w' f c) (k:∀T,TyK T w' W) (hb:Blk W L9 26 #[c.vars.1,c.params.1,c.blocks.1]):GmI w.heap.size W L9 f c (Bh f zs []):=
 ⟨hb,fe h.vars (k _),fe h.pars (k _),fe h.rows (k _),fun b hb=>(h.own b hb).tk (k _) (k _) (k _),h.apart,h.same⟩
theorem GmI.look {n0:Nat} {W:World} {L9:Nat} {f c:ax} {E:Nat→List cu} (h:GmI n0 W L9 f c E) {b i:Nat} (hb:b<f.nb) (hi:i<(E b).length):
  ∃g38 c38 q cq x0,c.blocks.1= .slice (some ⟨g38,0,none⟩) f.nb c38∧c.blocks.1.ownBlock=some g38∧n0≤g38∧g38<W.heap.size∧f.nb≤c38∧c38≤maxLen∧c.blocks.2[b]!.insts.1= .slice (some ⟨q,0,none⟩) (E b).length cq∧n0≤q∧(E b).length≤cq∧cq≤maxLen∧
   W.cell? ⟨g38,b*7+2,none⟩=some (.slice (some ⟨q,0,none⟩) (E b).length cq)∧W.frozen? ⟨g38,b*7+2,none⟩=false∧(∀k v,x0.cells[k]? =some v→W.cell? ⟨q,i*4+k,none⟩=some v)∧uu W x0∧SameI x0 (E b)[i]! ∧
   W.ownsRow n0 43 4 c.blocks.2[b]!.insts.1 (E b).length (c.blocks.2[b]!.insts.2.map cu.cells).flatten∧g38≠q∧(∃cs38,Blk W g38 38 cs38∧cs38[b*7+2]? =some (.slice (some ⟨q,0,none⟩) (E b).length cq))∧∃cs43,Blk W q 43 cs43:=by
 have hcn:c.nb=f.nb:=h.same.nb;have hB:=h.same.blk b hb;have hoz:=h.own b (by omega);obtain⟨g38,c38,e38,hg,ho38,h1,h2,h3,h4,h5⟩:=zl h.rows (by omega);have hins:=hoz.insts;have hxl:c.blocks.2[b]!.insts.2.length=(E b).length:=hB.ilen;rw[hxl]at hins;obtain⟨q,cq,eq,hq,hoq,q1,q2,q3,q4,q5⟩:=zl hins (by omega);have hbl:b<c.blocks.2.length:=by have:c.blocks.2.length=f.nb:=hcn;omega
 have hcell:(c.blocks.2.map df.cells).flatten[b*7+2]? =some c.blocks.2[b]!.insts.1:=by
  rw[flat_get (size:=7) (fun l hl=>by obtain⟨z,_,rfl⟩:=List.mem_map.1 hl;rfl) b 2 (by omega),List.getElem?_map,List.getElem?_eq_getElem hbl,getElem!_pos c.blocks.2 b hbl];rfl
 have hil:i<c.blocks.2[b]!.insts.2.length:=(by omega);obtain⟨g',cs38,e38',hb38,-⟩:=own_blk h.rows (by omega);rw[ho38]at e38';cases e38';obtain⟨q',cs43,e43',hb43,-⟩:=own_blk hins (by omega);rw[hoq]at e43';cases e43';have hc38:cs38[b*7+2]? =some (.slice (some ⟨q,0,none⟩) (E b).length cq):=(by rw[←hb38.cell,h4 _ (by omega),hcell,eq]);refine⟨g38,c38,q,cq,c.blocks.2[b]!.insts.2[i]!,by rw[e38,hcn],ho38,hg,h3,by omega,h2,eq,hq,q1,q2, ?_,h5 _,fun k v hv=> ?_, ?_, ?_,hins,sj hb38 hb43 (by decide),⟨cs38,hb38,hc38⟩,⟨cs43,hb43⟩⟩
 ·rw[h4 _ (by omega),hcell,eq]
 ·have hk4:k<4:=by
   have:=(List.getElem?_eq_some_iff.1 hv).1
   simpa[cu.cells]using this
  rw[q4 _ (by omega),flat_get (size:=4) (fun l hl=>by obtain⟨z,_,rfl⟩:=List.mem_map.1 hl;rfl) i k hk4,List.getElem?_map,List.getElem?_eq_getElem hil];rw[getElem!_pos _ i hil]at hv;exact hv
 ·have h9:=om (hoz.inst _ (az hil));rw[List.map_map]at h9;exact h9
 ·exact hB.ins i hi
structure GmR (w:World) (n0 L2 L9:Nat) (f c0:ax) (zs:List (Nat×Nat)) (pre:List (Fin zs.length)) (W:World):Prop where
 gm:∃c,c.vars.1=c0.vars.1∧c.params.1=c0.params.1∧c.blocks.1=c0.blocks.1∧GmI n0 W L9 f c (Bh f zs pre)
 r:Blk W L2 26 #[.slice none 0 0,.slice none 0 0,.slice none 0 0]
 b:Below w.heap.size w W
 s:n0≤W.heap.size
theorem GmR.own {w:World} {n0 L2 L9 B:Nat} {f c0:ax} {zs:List (Nat×Nat)} (hB:w.heap.size≤B):OwnFrom B (GmR w n0 L2 L9 f c0 zs):=fun pre A C row hs hg hr=>by
 obtain⟨c,e1,e2,e3,hG⟩:=hs.gm;have T:=tk_other hg (fun r e=>(hr r e).2);exact⟨⟨c,e1,e2,e3,hG.tk T⟩,T 26 _ _ hs.r,ownFrom_below (β:=Unit) (Nat.le_refl _) hB () A C row hs.b hg hr,Nat.le_trans hs.s hg.size⟩
theorem contE_round {f:ax} {zs:List (Nat×Nat)} {pre:List (Fin zs.length)} {x:Fin zs.length}:Bh f zs (pre++[x])=fun a=>if zs[x.1]!.1=a then insL (Bh f zs pre a) zs[x.1]!.2 else Bh f zs pre a:=by
 funext a;exact contE_snoc f zs pre x a
def MakeRet (f:ax) (w':World) (e:Ending):Prop:=
 (¬jf f=0∧e= .returned (.tuple #[.agg #[.slice none 0 0,.slice none 0 0,.slice none 0 0],.int .i64 3]))∨
 (jf f=0∧¬phT f f.nb+inT f f.nb+(iy f).length≤1024∧e= .returned (.tuple #[.agg #[.slice none 0 0,.slice none 0 0,.slice none 0 0],.int .i64 4]))∨
 (jf f=0∧phT f f.nb+inT f f.nb+(iy f).length≤1024∧∃c:ax,e= .returned (.tuple #[c.val,.int .i64 0])∧cz w' c∧xk (rq f) f c)
end Go.Proofs.YtjllbchfojonhaaGreatDoor
