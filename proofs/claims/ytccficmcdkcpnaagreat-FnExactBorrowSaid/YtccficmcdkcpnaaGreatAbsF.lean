import Derived.Test.YtccficmcdkcpnaaGreatAbsE
set_option linter.all false
namespace Go.Abs
open Go
variable {P : Program} {F : Nat -> Prop} {os : List Own} {s : St} {a : Act} {w : World} {k : Nat}
def HQ (F:Nat->Prop)(w:World)(os:List Own)(size:Nat)(us:List Value)(xs:List (List AV)):Prop:=
 us.length=xs.length*size/\∀(i:Nat) x,xs[i]?=some x->∀(j:Nat) c,x[j]?=some c->∃u,us[i*size+j]?=some u/\AU F w os c u
theorem HQ.nil {size:Nat}:HQ F w os size [] []:=⟨by simp,by simp⟩
theorem HQ.append {size:Nat}{us vs:List Value}{xs ys:List (List AV)}(h:HQ F w os size us xs)(g:HQ F w os size vs ys):HQ F w os size (us++vs) (xs++ys):=by
 refine⟨by rw[nW,nW,h.1,g.1,nZ],λi x hi j c hc=>?_⟩;by_cases rh:i<xs.length
 ·rw[mg rh]at hi;obtain⟨u,h1,h2⟩:=h.2 i x hi j c hc;exact⟨u,by rw[mg (mT.1 h1).1];exact h1,h2⟩
 ·rw[mn (by omega)]at hi;obtain⟨u,h1,h2⟩:=g.2 _ x hi j c hc;refine⟨u,?_,h2⟩;have:xs.length*size<=i*size:=nX _ (by omega);rw[mn (by rw[h.1];omega),<- h1,h.1];congr 1;rw[Nat.sub_mul];omega
theorem Rel.VU (hr:Rel F os s a w){e:TypeId}{size:Nat}(sQ:0<size):
  let o:Own:=⟨⟨0,e,size,[]⟩,none,0,FI⟩
  Rel F (os++[o]) { s with st:=s.st++[o.row] } a w/\Ext F os w F (os++[o]) w k/\(∀x v,AU F w os x v->AU F w (os++[o]) x v):=by
 intro o;have rb:∀(i:Nat) (oi:Own),(os++[o])[i]?=some oi->os[i]?=some oi∨(i=os.length/\oi=o):=λi oi hi=>by
  rcases oI i os.length with h|h|h
  ·rw[mg h]at hi;exact .inl hi
  ·subst h;simp at hi;exact .inr ⟨rfl,hi.symm⟩
  ·rw[mn (by omega),nG (by simp;omega)]at hi;cases hi
 have:=hr.V9 (k:=k) (GG.refl w none) (by simp) (os':=os++[o]) (DX.append os [o]) (λi oi hi=>by
   rcases rb i oi hi with h|⟨_,rfl⟩
   ·exact .inl ⟨h,by simp⟩
   ·exact .inr ⟨sQ,by simp[o],by simp[o],by simp[o],λg hg=>hg.elim,Fq (by simp[o])⟩)
  (λi j oi oj g hi hj vG vH=>by
   rcases rb i oi hi with h|⟨h,rfl⟩<;>rcases rb j oj hj with h'|⟨h',rfl⟩
   ·exact hr.inj i j oi oj g h h' vG vH
   ·simp[o,Own.owns,FI]at vH
   ·simp[o,Own.owns,FI]at vG
   ·omega)
  (λo' sA g hg=>by
   rcases nM.1 sA with h|h
   ·exact .inr ⟨o',h,hg⟩
   ·simp only[nQ]at h;subst h;simp[o,Own.owns,FI]at hg)
  (by simp)
 refine⟨?_,this.2.1,this.2.2⟩;have h1:=this.1;rw[oF,hr.st]at h1;simpa using h1
theorem Lj {t ty e:TypeId}{i:TypeInfo}(ht:P.underlying t=some (.slice e))(hi:P.info? e=some i)(base ad:Option Addr)(n cap c:Nat)(hn:n<=cap):
  (Builtin.append_ #[t,t] ty #[.slice base n cap,.slice ad 0 c]).run P w=.ok (.slice base n cap) w:=by
 have hf:(Builtin.firstCells i.size 0 (.slice ad 0 c)).run P w=.ok #[] w:=by
  cases ad<;>simp[Builtin.firstCells,loadCells,loadCellsFrom]
 cases base<;>simp[Builtin.append_,ni ht,sizeOf,typeInfo,hi,Builtin.lenOf,hn,hf,storeCells]
theorem IL {α:Type}(l:List α)(x:α):(l++[x])[l.length]?=some x:=by simp
theorem SS {size n m cap:Nat}{z:Value}(ta:z.cells.size=size){us vs:List Value}{xs ys:List (List AV)}(hxn:xs.length=n)(hyn:ys.length=m)
  (h:HQ F w os size us xs) (g:HQ F w os size vs ys) (vl:n+m<=cap) :
  (us.toArray++vs.toArray++Builtin.zeroCells z.cells (cap-(n+m))).size=cap*size/\
  ∀(i:Nat) x,(xs++ys)[i]?=some x->∀(j:Nat) c,x[j]?=some c->∃u,(us.toArray++vs.toArray++Builtin.zeroCells z.cells (cap-(n+m)))[i*size+j]?=some u/\AU F w os c u:=by
 have xN:=HQ.append h g;constructor
 ·simp only[Array.size_append,pn,pX,ta,h.1,g.1,hxn,hyn,<- nZ];congr 1;omega
 ·intro i x hi j c hc;obtain⟨u,h1,h2⟩:=xN.2 i x hi j c hc;refine⟨u,?_,h2⟩;have rh:=(mT.1 h1).1;rw[oa (by simpa using rh)];simpa using h1
theorem ZT {t ty:TypeId}{d x:AV}{ud ux:Value}{K:AV->List Row->Prop}(hr:Rel F os s a w)(h:Vf P s.st t d x K)(hd:AU F w os d ud)(hx:AU F w os x ux):
  GV P k F os s a w (Builtin.append_ #[t,t] ty #[ud,ux]) K:=by
 obtain⟨ei,he,h⟩:=Aw h;obtain⟨inf,z,hu,hi,hz,ta,sQ,ru,hby,_,_⟩:=HS he;obtain⟨ys,h,hys,yj,⟨ad,c,rfl,wg⟩⟩:=aL hr h hx;have yj:∀y∈ys,∀c∈y,c.leaf=true:=by
  rcases yj with rfl|h
  ·simp
  ·exact h
 have yD:0<ys.length->∃b o,ad=some ⟨b,o,none⟩/\(∀y∈ys,y.length=ei.size/\∀c∈y,c.leaf=true)/\∃us:List Value,us.length=ys.length*inf.size/\(∀(j:Nat) u,us[j]?=some u->w.cell? ((⟨b,o,none⟩:Addr).add j)=some u)/\(∀u∈us,u.oneCell'=true)/\HQ F w os ei.size us ys:=λhp=>by
  rcases wg with rfl|⟨b,o,rfl,hc⟩
  ·simp at hp
  ·obtain⟨us,h1,h2,h3,h4⟩:=XR hys hc;refine⟨b,o,rfl,λy hy=>⟨hys y hy,yj y hy⟩,us,by rw[h1,ru],h2,h3,h1,λi y hy j c hc=>?_⟩;obtain⟨u,e1,_,e2⟩:=h4 i y hy j c hc;exact⟨u,e1,e2⟩
 cases d with
 | zc=>
  obtain⟨hb,hm,hk⟩:=h;simp only[AU]at hd;obtain⟨ad0,rfl⟩:=hd;by_cases hm0:ys.length=0
  ·have yk:ys=[]:=nI hm0;subst yk;have:=hr.VU (k:=k) (e:=ei.e) (size:=ei.size) (by omega);refine⟨_,_,_,_,_,hk,Lj hu hi ad0 ad 0 0 c (ml _),this.1,?_,this.2.1⟩;simp only[AU];exact⟨⟨⟨0,ei.e,ei.size,[]⟩,none,0,FI⟩,by rw[hr.len];simp,by simp,⟨_,_,_,rfl⟩,λ_=>⟨by simp,.inl ⟨rfl,_,rfl⟩⟩⟩
  ·obtain⟨b,o,rfl,sL,us,wE,sR,xW,hrep⟩:=yD (by omega);have uK:=qS w ys.length 0 ei.e;have hle:=pP w ys.length 0 ei.e (by simp[maxLen];omega);have rm:(Builtin.append_ #[t,t] ty #[.slice ad0 0 0,.slice (some ⟨b,o,none⟩) ys.length c]).run P w=.ok (.slice (some ⟨w.heap.size,0,none⟩) ys.length (grownCap w ys.length 0 ei.e))
     (w.drew.alloc (.cells (([]:List Value).toArray++us.toArray++Builtin.zeroCells z.cells (grownCap w ys.length 0 ei.e-(0+ys.length))) ei.e)):=by
    cases ad0 with
    | none=>
     have:=run_append_nil (P:=P) w t ty ei.e inf z hu hi hz ⟨b,o,none⟩ ys.length c us wE sR (by omega) (by omega) (by rw[<- hby];omega);simpa using this
    | some a0=>
     have:=run_append_grow (P:=P) w t ty ei.e inf z hu hi hz a0 0 0 [] (by simp) (by simp) ⟨b,o,none⟩ ys.length c us wE sR (by omega) (by omega) (growslice_fits (by omega) (by rw[<- hby,ns];exact hb));simpa using this
   obtain⟨e1,e2⟩:=SS (F:=F) (w:=w) (os:=os) (z:=z) (size:=ei.size) (n:=0) (m:=ys.length) (cap:=grownCap w ys.length 0 ei.e) (by rw[ta,ru]) (by rfl) rfl HQ.nil hrep (by omega);have:=hr.QJ (k:=k) (.inr rfl) (cur:=_) (e:=ei.e) (size:=ei.size) (cap:=grownCap w ys.length 0 ei.e) (xs:=ys) (by omega) sL e1 uK hle (λi x hx j c hc=>e2 i x (by simpa using hx) j c hc);refine⟨_,_,_,_,_,hk,rm,this.1,?_,this.2.1⟩;simp only[AU];exact⟨⟨⟨0,ei.e,ei.size,ys⟩,some w.heap.size,grownCap w ys.length 0 ei.e,FI⟩,by rw[hr.len];exact IL _ _,ml _,⟨_,_,_,rfl⟩,λ_=>⟨ml _,.inr ⟨_,rfl,by simp⟩⟩⟩
 | own id g n=>
  obtain⟨row,rK,hg,xM,yE,GH,hb,hm,hk⟩:=Aw h;obtain⟨o,ho,rfl⟩:=hr.row rK;simp only[AU]at hd;obtain⟨o',sA,uK,_,hd⟩:=hd;rw[ho]at sA;cases sA;obtain⟨hnl,hd⟩:=hd hg;simp only[Lv xM]at hd;have rR:=hr.rows id o ho;have wF:(o.row.xs.take n).length=n:=by simp;omega
  have uT:∀o':Own,(os.set id o')[id]?=some o':=λo'=>mc (mT.1 ho).1;have tp:∀x∈o.row.xs.take n,x.length=ei.size/\∀c∈x,c.kept=true:=λx hx=>by
   have:=rR.lens x (oL hx);rw[GH]at this;exact this
  by_cases hm0:ys.length=0
  ·have yk:ys=[]:=nI hm0;subst yk;have tW:=hr.Nl (k:=k) (o':={ o with row:={ o.row with gen:=g+1,xs:=o.row.xs.take n++[] } }) ho (w':=w) (GG.refl w _) (by simp[hg]) rfl (λe=>by simp[hg]at e) (λg hg=>.inl hg) (λrZ=>by
    refine⟨rR.pos,λy hy=>?_,λhn=>?_,λb sH=>?_,rR.mo,rR.deep.keep rfl (λ_ h=>h) rfl (λ_ _=>rfl) (λi x j e s ys hx hc=>by
     simp only[oE,nJ]at hx;split at hx
     ·exact⟨x,hx,hc⟩
     ·cases hx)⟩
    ·simp only[oE]at hy;exact rR.lens y (oL hy)
    ·have:=rR.none hn;simp[this.1,this.2]
    ·obtain⟨h1,cur,h2,h3,h4,h5,h6⟩:=rR.some b sH;refine⟨h1,cur,h2,h3,by simp;omega,h5,λi y hy j c hc=>?_⟩;simp only[oE,nJ]at hy;split at hy
     ·obtain⟨u,e1,e2⟩:=h6 i y hy j c hc;exact⟨u,e1,rZ _ _ e2⟩
     ·cases hy)
   have xX:∃base cp,ud=.slice base n cp/\n<=cp/\((o.E1=none/\ud=.slice base n 0)∨∃b,o.E1=some b/\ud=.slice (some ⟨b,0,none⟩) n o.cap):=by
    rcases hd with ⟨hbn,a0,rfl⟩|⟨b,Ki,rfl⟩
    ·have:=rR.none hbn;simp only[this.1,nj,qR]at hnl;exact⟨a0,0,rfl,by omega,.inl ⟨hbn,rfl⟩⟩
    ·obtain⟨_,_,_,_,h4,_⟩:=rR.some b Ki;exact⟨_,o.cap,rfl,by omega,.inr ⟨b,Ki,rfl⟩⟩
   obtain⟨base,cp,rfl,hncp,hv⟩:=xX;refine⟨_,_,_,_,_,hk,Lj hu hi base ad n cp c hncp,tW.1,?_,tW.2.1⟩;simp only[AU];refine⟨_,uT _,by simp,⟨_,_,_,rfl⟩,λ_=>⟨by simp;omega,?_⟩⟩;rcases hv with ⟨hbn,hv⟩|⟨b,Ki,hv⟩
   ·exact .inl ⟨hbn,base,by simpa using hv⟩
   ·have hz:min n o.row.xs.length-n=0:=by omega
    exact .inr ⟨b,Ki,by simpa [hz] using hv⟩
  ·obtain⟨b,off,rfl,sL,us,wE,sR,xW,hrep⟩:=yD (by omega);have hgen:∀(cap:Nat) (tx:List Value),HQ F w os ei.size tx (o.row.xs.take n)->(∀(b:Nat) (cur:Array Value) (k:Nat) (u:Value),o.E1=some b->w.heap[b]?=some (.cells cur o.row.elem (0,0))->k<n*ei.size->cur[k]?=some u->tx[k]?=some u)->n+ys.length<=cap->cap<=maxLen->
     Rel F (os.set id ⟨⟨g+1,o.row.elem,o.row.size,o.row.xs.take n++ys⟩,some w.heap.size,cap,o.more⟩) { s with st:=s.st.set id ⟨g+1,o.row.elem,o.row.size,o.row.xs.take n++ys⟩ } a (w.drew.alloc (.cells (tx.toArray++us.toArray++Builtin.zeroCells z.cells (cap-(n+ys.length))) ei.e))/\
     Ext F os w F (os.set id ⟨⟨g+1,o.row.elem,o.row.size,o.row.xs.take n++ys⟩,some w.heap.size,cap,o.more⟩) (w.drew.alloc (.cells (tx.toArray++us.toArray++Builtin.zeroCells z.cells (cap-(n+ys.length))) ei.e)) k:=λcap tx hold holdv vl tR=>by
    obtain⟨e1,e2⟩:=SS (F:=F) (w:=w) (os:=os) (z:=z) (size:=ei.size) (n:=n) (m:=ys.length) (cap:=cap) (by rw[ta,ru]) wF rfl hold hrep vl;have:=hr.Nl (k:=k) (o':=⟨⟨g+1,o.row.elem,o.row.size,o.row.xs.take n++ys⟩,some w.heap.size,cap,o.more⟩) ho (w':=w.drew.alloc (.cells (tx.toArray++us.toArray++Builtin.zeroCells z.cells (cap-(n+ys.length))) ei.e)) (Hb _ _ _) (by simp[hg]) rfl (λe=>by simp[hg]at e) (λg hg=>by
      rcases hg with hg|hg
      ·simp only[mU]at hg;exact .inr (by omega)
      ·exact .inl (.inr hg)) (λrZ=>by
     have hdp:KD (w.drew.alloc (.cells (tx.toArray++us.toArray++Builtin.zeroCells z.cells (cap-(n+ys.length))) ei.e)) ⟨⟨g+1,o.row.elem,o.row.size,o.row.xs.take n++ys⟩,some w.heap.size,cap,o.more⟩:=by
      obtain⟨D,d1,d2,d3⟩:=rR.deep;refine⟨D,d1,d2,λb' sH sh el l sD i y j e s' zs hy hc=>?_⟩;simp only[mU]at sH hy⊢;subst sH;have ym:=pG w.drew (.cells (tx.toArray++us.toArray++Builtin.zeroCells z.cells (cap-(n+ys.length))) ei.e);have yp:some (Obj.cells (tx.toArray++us.toArray++Builtin.zeroCells z.cells (cap-(n+ys.length))) ei.e)=some (.cells sh el l):=ym.symm.trans sD;cases yp;have tE:i<n:=by
       rcases pC i n with h|h
       ·exact h
       ·rw[mn (by omega)]at hy;have:=sL y (mS hy);have:=this.2 _ (mS hc);simp[AV.leaf]at this
      rw[mg (by omega),nJ,me tE]at hy;have Ki:∃b,o.E1=some b:=by
       cases hbk:o.E1 with
       | none=>have:=(rR.none hbk).1;rw[this]at hy;simp at hy
       | some b=>exact⟨b,rfl⟩
      obtain⟨b,Ki⟩:=Ki;obtain⟨_,cur,re,_⟩:=rR.some b Ki;obtain⟨u,q1,q2⟩:=d3 b Ki cur _ _ re i y j e s' zs hy hc;have uf:j<o.row.size:=by rw[<- (rR.lens y (mS hy)).1];exact (mT.1 hc).1
      have vK:i*o.row.size+j<n*ei.size:=by
       have:(i+1)*o.row.size<=n*o.row.size:=nX _ tE;rw[nZ]at this;rw[<- GH];omega
      have q3:=holdv b cur _ u Ki re vK q1;refine⟨u,?_,KU (w:=w) (λ_ h=>h) (λc vJ=>heap_alloc_old w.drew _ (rR.mo _ (d1 _ _ _ vJ)).2.1) _ u q2⟩;have rh:=(mT.1 q3).1;rw[oa (by simp;omega),oa (by simpa using rh)];simpa using q3
     refine⟨rR.pos,λy hy=>?_,by simp,λb sH=>?_,λg hg=>⟨(rR.mo g hg).1,by have:=(rR.mo g hg).2.1;simp;omega,λe=>by simp only[mU]at e;have:=(rR.mo g hg).2.1;omega⟩,hdp⟩
     ·rcases nM.1 hy with h|h
      ·simp only[GH];exact tp y h
      ·simp only[GH];exact⟨(sL y h).1,λc hc=>Ci ((sL y h).2 c hc)⟩
     ·simp only[mU]at sH;subst sH;refine⟨λhF=>absurd (hr.FU _ hF) (qU _),_,by rw[yE];exact pG w.drew _,by simp only[GH];exact e1,by simp only[nW,wF];exact vl,tR,λi y hy j c hc=>?_⟩;obtain⟨u,f1,f2⟩:=e2 i y hy j c hc;exact⟨u,by simpa only[GH] using f1,rZ _ _ f2⟩)
    exact⟨this.1,this.2.1⟩
   have wG:∀cap,AU F (w.drew.alloc (.cells #[] 0)) (os.set id ⟨⟨g+1,o.row.elem,o.row.size,o.row.xs.take n++ys⟩,some w.heap.size,cap,o.more⟩) (.own id (g+1) (n+ys.length)) (.slice (some ⟨w.heap.size,0,none⟩) (n+ys.length) cap):=λcap=>by
    simp only[AU];exact⟨_,uT _,by simp,⟨_,_,_,rfl⟩,λ_=>⟨by simp only[nW,wF];omega,.inr ⟨_,rfl,(Lv (o:=⟨⟨g+1,o.row.elem,o.row.size,o.row.xs.take n++ys⟩,some w.heap.size,_,o.more⟩) (by rw[nW,wF])).symm⟩⟩⟩
   have uK:=qS w (n+ys.length);have hlem:=pP w (n+ys.length);rcases hd with ⟨hbn,a0,rfl⟩|⟨b0,Ki,rfl⟩
   ·have hn0:=rR.none hbn;simp only[hn0.1,nj,qR]at hnl;subst hnl;have rm:(Builtin.append_ #[t,t] ty #[.slice a0 0 0,.slice (some ⟨b,off,none⟩) ys.length c]).run P w=.ok (.slice (some ⟨w.heap.size,0,none⟩) (0+ys.length) (grownCap w (0+ys.length) 0 ei.e))
      (w.drew.alloc (.cells (([]:List Value).toArray++us.toArray++Builtin.zeroCells z.cells (grownCap w (0+ys.length) 0 ei.e-(0+ys.length))) ei.e)):=by
     cases a0 with
     | none=>
      have:=run_append_nil (P:=P) w t ty ei.e inf z hu hi hz ⟨b,off,none⟩ ys.length c us wE sR (by omega) (by omega) (by rw[<- hby];rw[ns]at hb;omega);simpa using this
     | some a0=>
      have:=run_append_grow (P:=P) w t ty ei.e inf z hu hi hz a0 0 0 [] (by simp) (by simp) ⟨b,off,none⟩ ys.length c us wE sR (by omega) (by omega) (growslice_fits (by omega) (by rw[<- hby];exact hb));simpa using this
    have yr:=hgen (grownCap w (0+ys.length) 0 ei.e) [] (by simp[HQ]) (λb cur k u hb=>by rw[hbn]at hb;cases hb) (uK 0 ei.e) (hlem 0 ei.e (by simp[maxLen];omega));exact⟨_,_,_,_,_,hk,rm,yr.1,by simpa [AU] using wG _,yr.2⟩
   ·obtain⟨yi,cur,re,tD,yh,yF,rf⟩:=rR.some b0 Ki;by_cases sb:n+ys.length<=o.cap
    ·have vT:n*inf.size+us.length<=cur.size:=by rw[wE,tD,GH,ru,<- nZ];exact nX _ sb
     have rm:=run_append_room (P:=P) w t ty ei.e inf hu hi b0 n o.cap cur (by rw[<- yE];exact re) ⟨b,off,none⟩ ys.length c us wE sR xW sb vT;have yG:=hr.Nl (k:=k) (o':=⟨⟨g+1,o.row.elem,o.row.size,o.row.xs.take n++ys⟩,some b0,o.cap,o.more⟩) ho (w':=w.setRow b0 (cur.toList.take (n*inf.size)++us++cur.toList.drop (n*inf.size+us.length)).toArray) (by rw[Ki];exact GG.setRow _ _ _) (by simp[hg]) rfl (λe=>by simp[hg]at e) (λg hg=>by
       rcases hg with hg|hg
       ·simp only[mU]at hg;exact .inl (.inl (by rw[Ki,hg]))
       ·exact .inl (.inr hg)) (λrZ=>by
      have hdp:KD (w.setRow b0 (cur.toList.take (n*inf.size)++us++cur.toList.drop (n*inf.size+us.length)).toArray) ⟨⟨g+1,o.row.elem,o.row.size,o.row.xs.take n++ys⟩,some b0,o.cap,o.more⟩:=by
       obtain⟨D,d1,d2,d3⟩:=rR.deep;refine⟨D,d1,d2,λb' sH sh el l sD i y j e s' zs hy hc=>?_⟩;simp only[mU]at sH hy⊢;subst sH;rw[setRow_heap w b0 cur _ _ _ re]at sD;cases sD;have tE:i<n:=by
        rcases pC i n with h|h
        ·exact h
        ·rw[mn (by omega)]at hy;have:=sL y (mS hy);have:=this.2 _ (mS hc);simp[AV.leaf]at this
       rw[mg (by omega),nJ,me tE]at hy;obtain⟨u,q1,q2⟩:=d3 b0 Ki cur _ _ re i y j e s' zs hy hc;have uf:j<o.row.size:=by rw[<- (rR.lens y (mS hy)).1];exact (mT.1 hc).1
       have vK:i*o.row.size+j<n*inf.size:=by
        have:(i+1)*o.row.size<=n*o.row.size:=nX _ tE;rw[nZ]at this;rw[<- ru,<- GH];omega
       refine⟨u,?_,KU (λ_ h=>h) (λc vJ=>setRow_other w b0 c _ λe=>(rR.mo _ (d1 _ _ _ vJ)).2.2 (by rw[Ki,e])) _ u q2⟩;rw[LB vT,me vK];exact q1
      refine⟨rR.pos,λy hy=>?_,by simp,λb sH=>?_,λg hg=>⟨(rR.mo g hg).1,by simpa using (rR.mo g hg).2.1,by rw[<- Ki];exact (rR.mo g hg).2.2⟩,hdp⟩
      ·rcases nM.1 hy with h|h
       ·simp only[GH];exact tp y h
       ·simp only[GH];exact⟨(sL y h).1,λc hc=>Ci ((sL y h).2 c hc)⟩
      ·simp only[mU]at sH;subst sH;refine⟨yi,_,setRow_heap w b0 cur _ _ _ re,?_,by simp only[nW,wF];exact sb,yF,λi y hy j c hc=>?_⟩
       ·simp only[pn,nW,nw,pz,nr]at vT⊢;rw[<- tD];omega
       ·simp only at hy⊢;rw[LB vT];by_cases tE:i<n
        ·rw[mg (by omega),nJ,me tE]at hy;obtain⟨u,f1,f2⟩:=rf i y hy j c hc;have uf:j<o.row.size:=by rw[<- (rR.lens y (mS hy)).1];exact (mT.1 hc).1
         have:(i+1)*o.row.size<=n*o.row.size:=nX _ tE;rw[nZ]at this;refine⟨u,?_,rZ _ _ f2⟩;rw[me (by rw[<- ru,<- GH];omega)];exact f1
        ·rw[mn (by omega),wF]at hy;obtain⟨u,f1,f2⟩:=hrep.2 _ y hy j c hc;refine⟨u,?_,rZ _ _ f2⟩;have rh:=(mT.1 f1).1;have h3:n*o.row.size<=i*o.row.size:=nX _ (by omega);rw[Nat.sub_mul]at f1 rh;rw[<- GH]at f1 rh;rw[mj (by rw[<- ru,<- GH];omega),me (by rw[<- ru,<- GH];omega),<- f1];congr 1;rw[<- ru,<- GH];omega)
     refine⟨_,_,_,_,_,hk,rm,yG.1,?_,yG.2.1⟩;simp only[AU];exact⟨_,uT _,by simp,⟨_,_,_,rfl⟩,λ_=>⟨by simp only[nW,wF];omega,.inr ⟨_,rfl,by simp[xM]⟩⟩⟩
    ·
     have hold:∀(i:Nat) y,(o.row.xs.take n)[i]?=some y->Nn F w os b0 (0+i*ei.size) y:=λi y hy=>by
      rw[nJ]at hy;split at hy
      ·have:=hr.Tb ho Ki hy;rw[GH]at this;simpa using this
      ·cases hy
     obtain⟨tx,h1,h2,_,h4⟩:=XR (λx hx=>(tp x hx).1) hold;have rm:=run_append_grow (P:=P) w t ty ei.e inf z hu hi hz ⟨b0,0,none⟩ n o.cap tx (by rw[h1,wF,ru]) h2 ⟨b,off,none⟩ ys.length c us wE sR (by omega) (by omega) (growslice_fits (by omega) (by rw[<- hby];exact hb));have yr:=hgen (grownCap w (n+ys.length) o.cap ei.e) tx ⟨h1,λi y hy j c hc=>by obtain⟨u,f1,_,f2⟩:=h4 i y hy j c hc;exact⟨u,f1,f2⟩⟩ (λb sh k u sH sD hk q=>by
      rw[Ki]at sH;cases sH;rw[re]at sD;cases sD;have vK:k<tx.length:=by rw[h1,wF];exact hk
      have:=h2 k _ (mY vK);rw[CI,og w b0 _ cur _ _ re,ns,q]at this;rw[mY vK,<- this]) (uK o.cap ei.e) (hlem o.cap ei.e (by simp[maxLen];omega))
     exact⟨_,_,_,_,_,hk,rm,yr.1,by simpa [AU] using wG _,yr.2⟩
 | _=>exact h.elim
end Go.Abs
