import Derived.Test.YtccficmcdkcpnaaGreatAbsE
set_option linter.all false
namespace Go.Abs
open Go
variable {P : Program} {F : Nat -> Prop} {os : List Own} {s : St} {a : Act} {w : World} {k : Nat}
def Jh (F:Nat->Prop)(w:World)(os:List Own)(size:Nat)(us:List Value)(xs:List (List AV)):Prop:=
 us.length=xs.length*size/\∀(i:Nat) x,xs[i]?=some x->∀(j:Nat) c,x[j]?=some c->∃u,us[i*size+j]?=some u/\Ae F w os c u
theorem Jh.nil {size:Nat}:Jh F w os size [] []:=⟨by simp,by simp⟩
theorem Jh.append {size:Nat}{us vs:List Value}{xs ys:List (List AV)}(h:Jh F w os size us xs)(g:Jh F w os size vs ys):Jh F w os size (us++vs) (xs++ys):=by
 refine⟨by rw[uu,uu,h.1,g.1,vg],λi x hi j c hc=>?_⟩;by_cases hlt:i<xs.length
 ·rw[uU hlt]at hi;obtain⟨u,h1,h2⟩:=h.2 i x hi j c hc;exact⟨u,by rw[uU (uK.1 h1).1];exact h1,h2⟩
 ·rw[ug (by omega)]at hi;obtain⟨u,h1,h2⟩:=g.2 _ x hi j c hc;refine⟨u,?_,h2⟩;have:xs.length*size<=i*size:=va _ (by omega);rw[ug (by rw[h.1];omega),<- h1,h.1];congr 1;rw[Nat.sub_mul];omega
theorem Rel.ZX (hr:Rel F os s a w){e:TypeId}{size:Nat}(hpos:0<size):
  let o:Own:=⟨⟨0,e,size,[]⟩,none,0,Gb⟩
  Rel F (os++[o]) { s with st:=s.st++[o.row] } a w/\Ext F os w F (os++[o]) w k/\(∀x v,Ae F w os x v->Ae F w (os++[o]) x v):=by
 intro o;have AAD:∀(i:Nat) (oi:Own),(os++[o])[i]?=some oi->os[i]?=some oi∨(i=os.length/\oi=o):=λi oi hi=>by
  rcases wD i os.length with h|h|h
  ·rw[uU h]at hi;exact .inl hi
  ·subst h;simp at hi;exact .inr ⟨rfl,hi.symm⟩
  ·rw[ug (by omega),vf (by simp;omega)]at hi;cases hi
 have:=hr.Z2 (k:=k) (Gt.refl w none) (by simp) (os':=os++[o]) (Er.append os [o]) (λi oi hi=>by
   rcases AAD i oi hi with h|⟨_,rfl⟩
   ·exact .inl ⟨h,by simp⟩
   ·exact .inr ⟨hpos,by simp[o],by simp[o],by simp[o],λg hg=>hg.elim,Fz (by simp[o])⟩)
  (λi j oi oj g hi hj hgi hgj=>by
   rcases AAD i oi hi with h|⟨h,rfl⟩<;>rcases AAD j oj hj with h'|⟨h',rfl⟩
   ·exact hr.inj i j oi oj g h h' hgi hgj
   ·simp[o,Own.owns,Gb]at hgj
   ·simp[o,Own.owns,Gb]at hgi
   ·omega)
  (λo' ho' g hg=>by
   rcases vJ.1 ho' with h|h
   ·exact .inr ⟨o',h,hg⟩
   ·simp only[vQ]at h;subst h;simp[o,Own.owns,Gb]at hg)
  (by simp)
 refine⟨?_,this.2.1,this.2.2⟩;have h1:=this.1;rw[vx,hr.st]at h1;simpa using h1
theorem Oo {t ty e:TypeId}{i:TypeInfo}(ht:P.underlying t=some (.slice e))(hi:P.info? e=some i)(base ad:Option Addr)(n cap c:Nat)(hn:n<=cap):
  (Builtin.append_ #[t,t] ty #[.slice base n cap,.slice ad 0 c]).run P w=.ok (.slice base n cap) w:=by
 have hf:(Builtin.firstCells i.size 0 (.slice ad 0 c)).run P w=.ok #[] w:=by
  cases ad<;>simp[Builtin.firstCells,loadCells,loadCellsFrom]
 cases base<;>simp[Builtin.append_,vn ht,sizeOf,typeInfo,hi,Builtin.lenOf,hn,hf,storeCells]
theorem LJ {α:Type}(l:List α)(x:α):(l++[x])[l.length]?=some x:=by simp
theorem WV {size n m cap:Nat}{z:Value}(hzs:z.cells.size=size){us vs:List Value}{xs ys:List (List AV)}(hxn:xs.length=n)(hyn:ys.length=m)
  (h:Jh F w os size us xs) (g:Jh F w os size vs ys) (hcap:n+m<=cap) :
  (us.toArray++vs.toArray++Builtin.zeroCells z.cells (cap-(n+m))).size=cap*size/\
  ∀(i:Nat) x,(xs++ys)[i]?=some x->∀(j:Nat) c,x[j]?=some c->∃u,(us.toArray++vs.toArray++Builtin.zeroCells z.cells (cap-(n+m)))[i*size+j]?=some u/\Ae F w os c u:=by
 have hfl:=Jh.append h g;constructor
 ·simp only[Array.size_append,xl,xX,hzs,h.1,g.1,hxn,hyn,<- vg];congr 1;omega
 ·intro i x hi j c hc;obtain⟨u,h1,h2⟩:=hfl.2 i x hi j c hc;refine⟨u,?_,h2⟩;have hlt:=(uK.1 h1).1;rw[wg (by simpa using hlt)];simpa using h1
theorem ef {t ty:TypeId}{d x:AV}{ud ux:Value}{K:AV->List Row->Prop}(hr:Rel F os s a w)(h:Y1 P s.st t d x K)(hd:Ae F w os d ud)(hx:Ae F w os x ux):
  IV P k F os s a w (Builtin.append_ #[t,t] ty #[ud,ux]) K:=by
 obtain⟨ei,he,h⟩:=BL h;obtain⟨inf,z,hu,hi,hz,hzs,hpos,hsz,hby,_,_⟩:=J3 he;obtain⟨ys,h,hys,hylf,⟨ad,c,rfl,hsrc⟩⟩:=jX hr h hx;have hylf:∀y∈ys,∀c∈y,c.leaf=true:=by
  rcases hylf with rfl|h
  ·simp
  ·exact h
 have hnews:0<ys.length->∃b o,ad=some ⟨b,o,none⟩/\(∀y∈ys,y.length=ei.size/\∀c∈y,c.leaf=true)/\∃us:List Value,us.length=ys.length*inf.size/\(∀(j:Nat) u,us[j]?=some u->w.cell? ((⟨b,o,none⟩:Addr).add j)=some u)/\(∀u∈us,u.oneCell'=true)/\Jh F w os ei.size us ys:=λhp=>by
  rcases hsrc with rfl|⟨b,o,rfl,hc⟩
  ·simp at hp
  ·obtain⟨us,h1,h2,h3,h4⟩:=cu hys hc;refine⟨b,o,rfl,λy hy=>⟨hys y hy,hylf y hy⟩,us,by rw[h1,hsz],h2,h3,h1,λi y hy j c hc=>?_⟩;obtain⟨u,e1,_,e2⟩:=h4 i y hy j c hc;exact⟨u,e1,e2⟩
 cases d with
 | zc=>
  obtain⟨hb,hm,hk⟩:=h;simp only[Ae]at hd;obtain⟨ad0,rfl⟩:=hd;by_cases hm0:ys.length=0
  ·have hys0:ys=[]:=vM hm0;subst hys0;have:=hr.ZX (k:=k) (e:=ei.e) (size:=ei.size) (by omega);refine⟨_,_,_,_,_,hk,Oo hu hi ad0 ad 0 0 c (uq _),this.1,?_,this.2.1⟩;simp only[Ae];exact⟨⟨⟨0,ei.e,ei.size,[]⟩,none,0,Gb⟩,by rw[hr.len];simp,by simp,⟨_,_,_,rfl⟩,λ_=>⟨by simp,.inl ⟨rfl,_,rfl⟩⟩⟩
  ·obtain⟨b,o,rfl,hleaf,us,hul,hcell,hone,hrep⟩:=hnews (by omega);have hge:=yV w ys.length 0 ei.e;have hle:=xP w ys.length 0 ei.e (by simp[maxLen];omega);have hrun:(Builtin.append_ #[t,t] ty #[.slice ad0 0 0,.slice (some ⟨b,o,none⟩) ys.length c]).run P w=.ok (.slice (some ⟨w.heap.size,0,none⟩) ys.length (grownCap w ys.length 0 ei.e))
     (w.drew.alloc (.cells (([]:List Value).toArray++us.toArray++Builtin.zeroCells z.cells (grownCap w ys.length 0 ei.e-(0+ys.length))) ei.e)):=by
    cases ad0 with
    | none=>
     have:=run_append_nil (P:=P) w t ty ei.e inf z hu hi hz ⟨b,o,none⟩ ys.length c us hul hcell (by omega) (by omega) (by rw[<- hby];omega);simpa using this
    | some a0=>
     have:=run_append_grow (P:=P) w t ty ei.e inf z hu hi hz a0 0 0 [] (by simp) (by simp) ⟨b,o,none⟩ ys.length c us hul hcell (by omega) (by omega) (growslice_fits (by omega) (by rw[<- hby,vd];exact hb));simpa using this
   obtain⟨e1,e2⟩:=WV (F:=F) (w:=w) (os:=os) (z:=z) (size:=ei.size) (n:=0) (m:=ys.length) (cap:=grownCap w ys.length 0 ei.e) (by rw[hzs,hsz]) (by rfl) rfl Jh.nil hrep (by omega);have:=hr.Tv (k:=k) (.inr rfl) (cur:=_) (e:=ei.e) (size:=ei.size) (cap:=grownCap w ys.length 0 ei.e) (xs:=ys) (by omega) hleaf e1 hge hle (λi x hx j c hc=>e2 i x (by simpa using hx) j c hc);refine⟨_,_,_,_,_,hk,hrun,this.1,?_,this.2.1⟩;simp only[Ae];exact⟨⟨⟨0,ei.e,ei.size,ys⟩,some w.heap.size,grownCap w ys.length 0 ei.e,Gb⟩,by rw[hr.len];exact LJ _ _,uq _,⟨_,_,_,rfl⟩,λ_=>⟨uq _,.inr ⟨_,rfl,by simp⟩⟩⟩
 | own id g n=>
  obtain⟨row,zh,hg,hnw,hel,Ga,hb,hm,hk⟩:=BL h;obtain⟨o,ho,rfl⟩:=hr.row zh;simp only[Ae]at hd;obtain⟨o',ho',hge,_,hd⟩:=hd;rw[ho]at ho';cases ho';obtain⟨hnl,hd⟩:=hd hg;simp only[PD hnw]at hd;have zp:=hr.rows id o ho;have htk:(o.row.xs.take n).length=n:=by simp;omega
  have hset:∀o':Own,(os.set id o')[id]?=some o':=λo'=>uV (uK.1 ho).1;have hlens:∀x∈o.row.xs.take n,x.length=ei.size/\∀c∈x,c.kept=true:=λx hx=>by
   have:=zp.lens x (wK hx);rw[Ga]at this;exact this
  by_cases hm0:ys.length=0
  ·have hys0:ys=[]:=vM hm0;subst hys0;have hturn:=hr.RK (k:=k) (o':={ o with row:={ o.row with gen:=g+1,xs:=o.row.xs.take n++[] } }) ho (w':=w) (Gt.refl w _) (by simp[hg]) rfl (λe=>by simp[hg]at e) (λg hg=>.inl hg) (λAAC=>by
    refine⟨zp.pos,λy hy=>?_,λhn=>?_,λb hb'=>?_,zp.mo,zp.deep.keep rfl (λ_ h=>h) rfl (λ_ _=>rfl) (λi x j e s ys hx hc=>by
     simp only[vV,vN]at hx;split at hx
     ·exact⟨x,hx,hc⟩
     ·cases hx)⟩
    ·simp only[vV]at hy;exact zp.lens y (wK hy)
    ·have:=zp.none hn;simp[this.1,this.2]
    ·obtain⟨h1,cur,h2,h3,h4,h5,h6⟩:=zp.some b hb';refine⟨h1,cur,h2,h3,by simp;omega,h5,λi y hy j c hc=>?_⟩;simp only[vV,vN]at hy;split at hy
     ·obtain⟨u,e1,e2⟩:=h6 i y hy j c hc;exact⟨u,e1,AAC _ _ e2⟩
     ·cases hy)
   have hval:∃base cp,ud=.slice base n cp/\n<=cp/\((o.Ea=none/\ud=.slice base n 0)∨∃b,o.Ea=some b/\ud=.slice (some ⟨b,0,none⟩) n o.cap):=by
    rcases hd with ⟨hbn,a0,rfl⟩|⟨b,Mu,rfl⟩
    ·have:=zp.none hbn;simp only[this.1,vl,yU]at hnl;exact⟨a0,0,rfl,by omega,.inl ⟨hbn,rfl⟩⟩
    ·obtain⟨_,_,_,_,h4,_⟩:=zp.some b Mu;exact⟨_,o.cap,rfl,by omega,.inr ⟨b,Mu,rfl⟩⟩
   obtain⟨base,cp,rfl,hncp,hv⟩:=hval;refine⟨_,_,_,_,_,hk,Oo hu hi base ad n cp c hncp,hturn.1,?_,hturn.2.1⟩;simp only[Ae];refine⟨_,hset _,by simp,⟨_,_,_,rfl⟩,λ_=>⟨by simp;omega,?_⟩⟩;rcases hv with ⟨hbn,hv⟩|⟨b,Mu,hv⟩
   ·exact .inl ⟨hbn,base,by simpa using hv⟩
   ·have hz:min n o.row.xs.length-n=0:=by omega
    exact .inr ⟨b,Mu,by simpa [hz] using hv⟩
  ·obtain⟨b,off,rfl,hleaf,us,hul,hcell,hone,hrep⟩:=hnews (by omega);have hgen:∀(cap:Nat) (olds:List Value),Jh F w os ei.size olds (o.row.xs.take n)->(∀(b:Nat) (cur:Array Value) (k:Nat) (u:Value),o.Ea=some b->w.heap[b]?=some (.cells cur o.row.elem (0,0))->k<n*ei.size->cur[k]?=some u->olds[k]?=some u)->n+ys.length<=cap->cap<=maxLen->
     Rel F (os.set id ⟨⟨g+1,o.row.elem,o.row.size,o.row.xs.take n++ys⟩,some w.heap.size,cap,o.more⟩) { s with st:=s.st.set id ⟨g+1,o.row.elem,o.row.size,o.row.xs.take n++ys⟩ } a (w.drew.alloc (.cells (olds.toArray++us.toArray++Builtin.zeroCells z.cells (cap-(n+ys.length))) ei.e))/\
     Ext F os w F (os.set id ⟨⟨g+1,o.row.elem,o.row.size,o.row.xs.take n++ys⟩,some w.heap.size,cap,o.more⟩) (w.drew.alloc (.cells (olds.toArray++us.toArray++Builtin.zeroCells z.cells (cap-(n+ys.length))) ei.e)) k:=λcap olds hold holdv hcap hmax=>by
    obtain⟨e1,e2⟩:=WV (F:=F) (w:=w) (os:=os) (z:=z) (size:=ei.size) (n:=n) (m:=ys.length) (cap:=cap) (by rw[hzs,hsz]) htk rfl hold hrep hcap;have:=hr.RK (k:=k) (o':=⟨⟨g+1,o.row.elem,o.row.size,o.row.xs.take n++ys⟩,some w.heap.size,cap,o.more⟩) ho (w':=w.drew.alloc (.cells (olds.toArray++us.toArray++Builtin.zeroCells z.cells (cap-(n+ys.length))) ei.e)) (J8 _ _ _) (by simp[hg]) rfl (λe=>by simp[hg]at e) (λg hg=>by
      rcases hg with hg|hg
      ·simp only[uO]at hg;exact .inr (by omega)
      ·exact .inl (.inr hg)) (λAAC=>by
     have hdp:NB (w.drew.alloc (.cells (olds.toArray++us.toArray++Builtin.zeroCells z.cells (cap-(n+ys.length))) ei.e)) ⟨⟨g+1,o.row.elem,o.row.size,o.row.xs.take n++ys⟩,some w.heap.size,cap,o.more⟩:=by
      obtain⟨D,d1,d2,d3⟩:=zp.deep;refine⟨D,d1,d2,λb' hb' cur' el l hcur' i y j e s' zs hy hc=>?_⟩;simp only[uO]at hb' hy⊢;subst hb';have hnew:=xE w.drew (.cells (olds.toArray++us.toArray++Builtin.zeroCells z.cells (cap-(n+ys.length))) ei.e);have hcur'':some (Obj.cells (olds.toArray++us.toArray++Builtin.zeroCells z.cells (cap-(n+ys.length))) ei.e)=some (.cells cur' el l):=hnew.symm.trans hcur';cases hcur'';have hin:i<n:=by
       rcases wy i n with h|h
       ·exact h
       ·rw[ug (by omega)]at hy;have:=hleaf y (uL hy);have:=this.2 _ (uL hc);simp[AV.leaf]at this
      rw[uU (by omega),vN,uX hin]at hy;have Mu:∃b,o.Ea=some b:=by
       cases hbk:o.Ea with
       | none=>have:=(zp.none hbk).1;rw[this]at hy;simp at hy
       | some b=>exact⟨b,rfl⟩
      obtain⟨b,Mu⟩:=Mu;obtain⟨_,cur,AAF,_⟩:=zp.some b Mu;obtain⟨u,q1,q2⟩:=d3 b Mu cur _ _ AAF i y j e s' zs hy hc;have hjl:j<o.row.size:=by rw[<- (zp.lens y (uL hy)).1];exact (uK.1 hc).1
      have hkl:i*o.row.size+j<n*ei.size:=by
       have:(i+1)*o.row.size<=n*o.row.size:=va _ hin;rw[vg]at this;rw[<- Ga];omega
      have q3:=holdv b cur _ u Mu AAF hkl q1;refine⟨u,?_,Nb (w:=w) (λ_ h=>h) (λc hcm=>heap_alloc_old w.drew _ (zp.mo _ (d1 _ _ _ hcm)).2.1) _ u q2⟩;have hlt:=(uK.1 q3).1;rw[wg (by simp;omega),wg (by simpa using hlt)];simpa using q3
     refine⟨zp.pos,λy hy=>?_,by simp,λb hb'=>?_,λg hg=>⟨(zp.mo g hg).1,by have:=(zp.mo g hg).2.1;simp;omega,λe=>by simp only[uO]at e;have:=(zp.mo g hg).2.1;omega⟩,hdp⟩
     ·rcases vJ.1 hy with h|h
      ·simp only[Ga];exact hlens y h
      ·simp only[Ga];exact⟨(hleaf y h).1,λc hc=>DL ((hleaf y h).2 c hc)⟩
     ·simp only[uO]at hb';subst hb';refine⟨λhF=>absurd (hr.GK _ hF) (yY _),_,by rw[hel];exact xE w.drew _,by simp only[Ga];exact e1,by simp only[uu,htk];exact hcap,hmax,λi y hy j c hc=>?_⟩;obtain⟨u,f1,f2⟩:=e2 i y hy j c hc;exact⟨u,by simpa only[Ga] using f1,AAC _ _ f2⟩)
    exact⟨this.1,this.2.1⟩
   have hfin:∀cap,Ae F (w.drew.alloc (.cells #[] 0)) (os.set id ⟨⟨g+1,o.row.elem,o.row.size,o.row.xs.take n++ys⟩,some w.heap.size,cap,o.more⟩) (.own id (g+1) (n+ys.length)) (.slice (some ⟨w.heap.size,0,none⟩) (n+ys.length) cap):=λcap=>by
    simp only[Ae];exact⟨_,hset _,by simp,⟨_,_,_,rfl⟩,λ_=>⟨by simp only[uu,htk];omega,.inr ⟨_,rfl,(PD (o:=⟨⟨g+1,o.row.elem,o.row.size,o.row.xs.take n++ys⟩,some w.heap.size,_,o.more⟩) (by rw[uu,htk])).symm⟩⟩⟩
   have hge:=yV w (n+ys.length);have hlem:=xP w (n+ys.length);rcases hd with ⟨hbn,a0,rfl⟩|⟨b0,Mu,rfl⟩
   ·have hn0:=zp.none hbn;simp only[hn0.1,vl,yU]at hnl;subst hnl;have hrun:(Builtin.append_ #[t,t] ty #[.slice a0 0 0,.slice (some ⟨b,off,none⟩) ys.length c]).run P w=.ok (.slice (some ⟨w.heap.size,0,none⟩) (0+ys.length) (grownCap w (0+ys.length) 0 ei.e))
      (w.drew.alloc (.cells (([]:List Value).toArray++us.toArray++Builtin.zeroCells z.cells (grownCap w (0+ys.length) 0 ei.e-(0+ys.length))) ei.e)):=by
     cases a0 with
     | none=>
      have:=run_append_nil (P:=P) w t ty ei.e inf z hu hi hz ⟨b,off,none⟩ ys.length c us hul hcell (by omega) (by omega) (by rw[<- hby];rw[vd]at hb;omega);simpa using this
     | some a0=>
      have:=run_append_grow (P:=P) w t ty ei.e inf z hu hi hz a0 0 0 [] (by simp) (by simp) ⟨b,off,none⟩ ys.length c us hul hcell (by omega) (by omega) (growslice_fits (by omega) (by rw[<- hby];exact hb));simpa using this
    have hgg:=hgen (grownCap w (0+ys.length) 0 ei.e) [] (by simp[Jh]) (λb cur k u hb=>by rw[hbn]at hb;cases hb) (hge 0 ei.e) (hlem 0 ei.e (by simp[maxLen];omega));exact⟨_,_,_,_,_,hk,hrun,hgg.1,by simpa [Ae] using hfin _,hgg.2⟩
   ·obtain⟨hnF,cur,AAF,hcs,hlc,hmaxc,AAE⟩:=zp.some b0 Mu;by_cases hroom:n+ys.length<=o.cap
    ·have hfit:n*inf.size+us.length<=cur.size:=by rw[hul,hcs,Ga,hsz,<- vg];exact va _ hroom
     have hrun:=run_append_room (P:=P) w t ty ei.e inf hu hi b0 n o.cap cur (by rw[<- hel];exact AAF) ⟨b,off,none⟩ ys.length c us hul hcell hone hroom hfit;have hset':=hr.RK (k:=k) (o':=⟨⟨g+1,o.row.elem,o.row.size,o.row.xs.take n++ys⟩,some b0,o.cap,o.more⟩) ho (w':=w.setRow b0 (cur.toList.take (n*inf.size)++us++cur.toList.drop (n*inf.size+us.length)).toArray) (by rw[Mu];exact Gt.setRow _ _ _) (by simp[hg]) rfl (λe=>by simp[hg]at e) (λg hg=>by
       rcases hg with hg|hg
       ·simp only[uO]at hg;exact .inl (.inl (by rw[Mu,hg]))
       ·exact .inl (.inr hg)) (λAAC=>by
      have hdp:NB (w.setRow b0 (cur.toList.take (n*inf.size)++us++cur.toList.drop (n*inf.size+us.length)).toArray) ⟨⟨g+1,o.row.elem,o.row.size,o.row.xs.take n++ys⟩,some b0,o.cap,o.more⟩:=by
       obtain⟨D,d1,d2,d3⟩:=zp.deep;refine⟨D,d1,d2,λb' hb' cur' el l hcur' i y j e s' zs hy hc=>?_⟩;simp only[uO]at hb' hy⊢;subst hb';rw[setRow_heap w b0 cur _ _ _ AAF]at hcur';cases hcur';have hin:i<n:=by
        rcases wy i n with h|h
        ·exact h
        ·rw[ug (by omega)]at hy;have:=hleaf y (uL hy);have:=this.2 _ (uL hc);simp[AV.leaf]at this
       rw[uU (by omega),vN,uX hin]at hy;obtain⟨u,q1,q2⟩:=d3 b0 Mu cur _ _ AAF i y j e s' zs hy hc;have hjl:j<o.row.size:=by rw[<- (zp.lens y (uL hy)).1];exact (uK.1 hc).1
       have hkl:i*o.row.size+j<n*inf.size:=by
        have:(i+1)*o.row.size<=n*o.row.size:=va _ hin;rw[vg]at this;rw[<- hsz,<- Ga];omega
       refine⟨u,?_,Nb (λ_ h=>h) (λc hcm=>setRow_other w b0 c _ λe=>(zp.mo _ (d1 _ _ _ hcm)).2.2 (by rw[Mu,e])) _ u q2⟩;rw[OT hfit,uX hkl];exact q1
      refine⟨zp.pos,λy hy=>?_,by simp,λb hb'=>?_,λg hg=>⟨(zp.mo g hg).1,by simpa using (zp.mo g hg).2.1,by rw[<- Mu];exact (zp.mo g hg).2.2⟩,hdp⟩
      ·rcases vJ.1 hy with h|h
       ·simp only[Ga];exact hlens y h
       ·simp only[Ga];exact⟨(hleaf y h).1,λc hc=>DL ((hleaf y h).2 c hc)⟩
      ·simp only[uO]at hb';subst hb';refine⟨hnF,_,setRow_heap w b0 cur _ _ _ AAF,?_,by simp only[uu,htk];exact hroom,hmaxc,λi y hy j c hc=>?_⟩
       ·simp only[xl,uu,vt,xZ,vy]at hfit⊢;rw[<- hcs];omega
       ·simp only at hy⊢;rw[OT hfit];by_cases hin:i<n
        ·rw[uU (by omega),vN,uX hin]at hy;obtain⟨u,f1,f2⟩:=AAE i y hy j c hc;have hjl:j<o.row.size:=by rw[<- (zp.lens y (uL hy)).1];exact (uK.1 hc).1
         have:(i+1)*o.row.size<=n*o.row.size:=va _ hin;rw[vg]at this;refine⟨u,?_,AAC _ _ f2⟩;rw[uX (by rw[<- hsz,<- Ga];omega)];exact f1
        ·rw[ug (by omega),htk]at hy;obtain⟨u,f1,f2⟩:=hrep.2 _ y hy j c hc;refine⟨u,?_,AAC _ _ f2⟩;have hlt:=(uK.1 f1).1;have h3:n*o.row.size<=i*o.row.size:=va _ (by omega);rw[Nat.sub_mul]at f1 hlt;rw[<- Ga]at f1 hlt;rw[uY (by rw[<- hsz,<- Ga];omega),uX (by rw[<- hsz,<- Ga];omega),<- f1];congr 1;rw[<- hsz,<- Ga];omega)
     refine⟨_,_,_,_,_,hk,hrun,hset'.1,?_,hset'.2.1⟩;simp only[Ae];exact⟨_,hset _,by simp,⟨_,_,_,rfl⟩,λ_=>⟨by simp only[uu,htk];omega,.inr ⟨_,rfl,by simp[hnw]⟩⟩⟩
    ·
     have hold:∀(i:Nat) y,(o.row.xs.take n)[i]?=some y->Q1 F w os b0 (0+i*ei.size) y:=λi y hy=>by
      rw[vN]at hy;split at hy
      ·have:=hr.XZ ho Mu hy;rw[Ga]at this;simpa using this
      ·cases hy
     obtain⟨olds,h1,h2,_,h4⟩:=cu (λx hx=>(hlens x hx).1) hold;have hrun:=run_append_grow (P:=P) w t ty ei.e inf z hu hi hz ⟨b0,0,none⟩ n o.cap olds (by rw[h1,htk,hsz]) h2 ⟨b,off,none⟩ ys.length c us hul hcell (by omega) (by omega) (growslice_fits (by omega) (by rw[<- hby];exact hb));have hgg:=hgen (grownCap w (n+ys.length) o.cap ei.e) olds ⟨h1,λi y hy j c hc=>by obtain⟨u,f1,_,f2⟩:=h4 i y hy j c hc;exact⟨u,f1,f2⟩⟩ (λb cur' k u hb' hcur' hk q=>by
      rw[Mu]at hb';cases hb';rw[AAF]at hcur';cases hcur';have hkl:k<olds.length:=by rw[h1,htk];exact hk
      have:=h2 k _ (uQ hkl);rw[DM,wm w b0 _ cur _ _ AAF,vd,q]at this;rw[uQ hkl,<- this]) (hge o.cap ei.e) (hlem o.cap ei.e (by simp[maxLen];omega))
     exact⟨_,_,_,_,_,hk,hrun,hgg.1,by simpa [Ae] using hfin _,hgg.2⟩
 | _=>exact h.elim
end Go.Abs
