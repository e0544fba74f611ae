import Derived.Test.YtccficmcdkcpnaaGreatAbsE
set_option linter.all false
namespace Go.Abs
open Go
variable {P : Program} {F : Nat -> Prop} {os : List Own} {s : St} {a : Act} {w : World} {k : Nat}
def Ha (F:Nat->Prop)(w:World)(os:List Own)(size:Nat)(us:List Value)(xs:List (List AV)):Prop:=
 us.length=xs.length*size/\∀(i:Nat) x,xs[i]?=some x->∀(j:Nat) c,x[j]?=some c->∃u,us[i*size+j]?=some u/\Ac F w os c u
theorem Ha.nil {size:Nat}:Ha F w os size [] []:=⟨by simp,by simp⟩
theorem Ha.append {size:Nat}{us vs:List Value}{xs ys:List (List AV)}(h:Ha F w os size us xs)(g:Ha F w os size vs ys):Ha F w os size (us++vs) (xs++ys):=by
 refine⟨by rw[qQ,qQ,h.1,g.1,qn],λi x hi j c hc=>?_⟩;by_cases vS:i<xs.length
 ·rw[qK vS]at hi;obtain⟨u,h1,h2⟩:=h.2 i x hi j c hc;exact⟨u,by rw[qK (px.1 h1).1];exact h1,h2⟩
 ·rw[qS (by omega)]at hi;obtain⟨u,h1,h2⟩:=g.2 _ x hi j c hc;refine⟨u,?_,h2⟩;have:xs.length*size<=i*size:=qo _ (by omega);rw[qS (by rw[h.1];omega),<- h1,h.1];congr 1;rw[Nat.sub_mul];omega
theorem Rel.Xj (hr:Rel F os s a w){e:TypeId}{size:Nat}(ve:0<size):
  let o:Own:=⟨⟨0,e,size,[]⟩,none,0,Ga⟩
  Rel F (os++[o]) { s with st:=s.st++[o.row] } a w/\Ext F os w F (os++[o]) w k/\(∀x v,Ac F w os x v->Ac F w (os++[o]) x v):=by
 intro o;have vJ:∀(i:Nat) (oi:Own),(os++[o])[i]?=some oi->os[i]?=some oi∨(i=os.length/\oi=o):=λi oi hi=>by
  rcases rb i os.length with h|h|h
  ·rw[qK h]at hi;exact .inl hi
  ·subst h;simp at hi;exact .inr ⟨rfl,hi.symm⟩
  ·rw[qS (by omega),rR (by simp;omega)]at hi;cases hi
 have:=hr.Z2 (k:=k) (Iy.refl w none) (by simp) (os':=os++[o]) (F8.append os [o]) (λi oi hi=>by
   rcases vJ i oi hi with h|⟨_,rfl⟩
   ·exact .inl ⟨h,by simp⟩
   ·exact .inr ⟨ve,by simp[o],by simp[o],by simp[o],λg hg=>hg.elim,E7 (by simp[o])⟩)
  (λi j oi oj g hi hj zy hgj=>by
   rcases vJ i oi hi with h|⟨h,rfl⟩<;>rcases vJ j oj hj with h'|⟨h',rfl⟩
   ·exact hr.inj i j oi oj g h h' zy hgj
   ·simp[o,Own.owns,Ga]at hgj
   ·simp[o,Own.owns,Ga]at zy
   ·omega)
  (λo' vc g hg=>by
   rcases qb.1 vc with h|h
   ·exact .inr ⟨o',h,hg⟩
   ·simp only[qO]at h;subst h;simp[o,Own.owns,Ga]at hg)
  (by simp)
 refine⟨?_,this.2.1,this.2.2⟩;have h1:=this.1;rw[rM,hr.st]at h1;simpa using h1
theorem N6 {t ty e:TypeId}{i:TypeInfo}(ht:P.underlying t=some (.slice e))(hi:P.info? e=some i)(base ad:Option Addr)(n cap c:Nat)(hn:n<=cap):
  (Builtin.append_ #[t,t] ty #[.slice base n cap,.slice ad 0 c]).run P w=.ok (.slice base n cap) w:=by
 have hf:(Builtin.firstCells i.size 0 (.slice ad 0 c)).run P w=.ok #[] w:=by
  cases ad<;>simp[Builtin.firstCells,loadCells,loadCellsFrom]
 cases base<;>simp[Builtin.append_,rD ht,sizeOf,typeInfo,hi,Builtin.lenOf,hn,hf,storeCells]
theorem KU {α:Type}(l:List α)(x:α):(l++[x])[l.length]?=some x:=by simp
theorem Qt {size n m cap:Nat}{z:Value}(xh:z.cells.size=size){us vs:List Value}{xs ys:List (List AV)}(hxn:xs.length=n)(hyn:ys.length=m)
  (h:Ha F w os size us xs) (g:Ha F w os size vs ys) (yU:n+m<=cap) :
  (us.toArray++vs.toArray++Builtin.zeroCells z.cells (cap-(n+m))).size=cap*size/\
  ∀(i:Nat) x,(xs++ys)[i]?=some x->∀(j:Nat) c,x[j]?=some c->∃u,(us.toArray++vs.toArray++Builtin.zeroCells z.cells (cap-(n+m)))[i*size+j]?=some u/\Ac F w os c u:=by
 have yP:=Ha.append h g;constructor
 ·simp only[Array.size_append,sY,size_zeroCells,xh,h.1,g.1,hxn,hyn,<- qn];congr 1;omega
 ·intro i x hi j c hc;obtain⟨u,h1,h2⟩:=yP.2 i x hi j c hc;refine⟨u,?_,h2⟩;have vS:=(px.1 h1).1;rw[ru (by simpa using vS)];simpa using h1
theorem cH {t ty:TypeId}{d x:AV}{ud ux:Value}{K:AV->List Row->Prop}(hr:Rel F os s a w)(h:Yc P s.st t d x K)(hd:Ac F w os d ud)(hx:Ac F w os x ux):
  Iu P k F os s a w (Builtin.append_ #[t,t] ty #[ud,ux]) K:=by
 obtain⟨ei,he,h⟩:=BN h;obtain⟨inf,z,hu,hi,hz,xh,ve,vY,hby,_,_⟩:=Ii he;obtain⟨ys,h,hys,hylf,⟨ad,c,rfl,hsrc⟩⟩:=XQ hr h hx;have hylf:∀y∈ys,∀c∈y,c.leaf=true:=by
  rcases hylf with rfl|h
  ·simp
  ·exact h
 have hnews:0<ys.length->∃b o,ad=some ⟨b,o,none⟩/\(∀y∈ys,y.length=ei.size/\∀c∈y,c.leaf=true)/\∃us:List Value,us.length=ys.length*inf.size/\(∀(j:Nat) u,us[j]?=some u->w.cell? ((⟨b,o,none⟩:Addr).add j)=some u)/\(∀u∈us,u.oneCell'=true)/\Ha F w os ei.size us ys:=λhp=>by
  rcases hsrc with rfl|⟨b,o,rfl,hc⟩
  ·simp at hp
  ·obtain⟨us,h1,h2,h3,h4⟩:=SZ hys hc;refine⟨b,o,rfl,λy hy=>⟨hys y hy,hylf y hy⟩,us,by rw[h1,vY],h2,h3,h1,λi y hy j c hc=>?_⟩;obtain⟨u,e1,_,e2⟩:=h4 i y hy j c hc;exact⟨u,e1,e2⟩
 cases d with
 | zc=>
  obtain⟨hb,hm,hk⟩:=h;simp only[Ac]at hd;obtain⟨ad0,rfl⟩:=hd;by_cases hm0:ys.length=0
  ·have hys0:ys=[]:=qV hm0;subst hys0;have:=hr.Xj (k:=k) (e:=ei.e) (size:=ei.size) (by omega);refine⟨_,_,_,_,_,hk,N6 hu hi ad0 ad 0 0 c (qU _),this.1,?_,this.2.1⟩;simp only[Ac];exact⟨⟨⟨0,ei.e,ei.size,[]⟩,none,0,Ga⟩,by rw[hr.len];simp,by simp,⟨_,_,_,rfl⟩,λ_=>⟨by simp,.inl ⟨rfl,_,rfl⟩⟩⟩
  ·obtain⟨b,o,rfl,vm,us,zC,vn,yW,hrep⟩:=hnews (by omega);have yn:=grownCap_ge w ys.length 0 ei.e;have hle:=sx w ys.length 0 ei.e (by simp[maxLen];omega);have vT:(Builtin.append_ #[t,t] ty #[.slice ad0 0 0,.slice (some ⟨b,o,none⟩) ys.length c]).run P w=.ok (.slice (some ⟨w.heap.size,0,none⟩) ys.length (grownCap w ys.length 0 ei.e))
     (w.drew.alloc (.cells (([]:List Value).toArray++us.toArray++Builtin.zeroCells z.cells (grownCap w ys.length 0 ei.e-(0+ys.length))) ei.e)):=by
    cases ad0 with
    | none=>
     have:=run_append_nil (P:=P) w t ty ei.e inf z hu hi hz ⟨b,o,none⟩ ys.length c us zC vn (by omega) (by omega) (by rw[<- hby];omega);simpa using this
    | some a0=>
     have:=sv (P:=P) w t ty ei.e inf z hu hi hz a0 0 0 [] (by simp) (by simp) ⟨b,o,none⟩ ys.length c us zC vn (by omega) (by omega) (tD (by omega) (by rw[<- hby,rT];exact hb));simpa using this
   obtain⟨e1,e2⟩:=Qt (F:=F) (w:=w) (os:=os) (z:=z) (size:=ei.size) (n:=0) (m:=ys.length) (cap:=grownCap w ys.length 0 ei.e) (by rw[xh,vY]) (by rfl) rfl Ha.nil hrep (by omega);have:=hr.Pa (k:=k) (.inr rfl) (cur:=_) (e:=ei.e) (size:=ei.size) (cap:=grownCap w ys.length 0 ei.e) (xs:=ys) (by omega) vm e1 yn hle (λi x hx j c hc=>e2 i x (by simpa using hx) j c hc);refine⟨_,_,_,_,_,hk,vT,this.1,?_,this.2.1⟩;simp only[Ac];exact⟨⟨⟨0,ei.e,ei.size,ys⟩,some w.heap.size,grownCap w ys.length 0 ei.e,Ga⟩,by rw[hr.len];exact KU _ _,qU _,⟨_,_,_,rfl⟩,λ_=>⟨qU _,.inr ⟨_,rfl,by simp⟩⟩⟩
 | own id g n=>
  obtain⟨row,uj,hg,hnw,hel,Hm,hb,hm,hk⟩:=BN h;obtain⟨o,ho,rfl⟩:=hr.row uj;simp only[Ac]at hd;obtain⟨o',vc,yn,_,hd⟩:=hd;rw[ho]at vc;cases vc;obtain⟨hnl,hd⟩:=hd hg;simp only[OM hnw]at hd;have vF:=hr.rows id o ho;have htk:(o.row.xs.take n).length=n:=by simp;omega
  have yX:∀o':Own,(os.set id o')[id]?=some o':=λo'=>qI (px.1 ho).1;have wG:∀x∈o.row.xs.take n,x.length=ei.size/\∀c∈x,c.kept=true:=λx hx=>by
   have:=vF.lens x (rO hx);rw[Hm]at this;exact this
  by_cases hm0:ys.length=0
  ·have hys0:ys=[]:=qV hm0;subst hys0;have xG:=hr.SM (k:=k) (o':={ o with row:={ o.row with gen:=g+1,xs:=o.row.xs.take n++[] } }) ho (w':=w) (Iy.refl w _) (by simp[hg]) rfl (λe=>by simp[hg]at e) (λg hg=>.inl hg) (λvL=>by
    refine⟨vF.pos,λy hy=>?_,λhn=>?_,λb vy=>?_,vF.mo,vF.deep.keep rfl (λ_ h=>h) rfl (λ_ _=>rfl) (λi x j e s ys hx hc=>by
     simp only[rY,ql]at hx;split at hx
     ·exact⟨x,hx,hc⟩
     ·cases hx)⟩
    ·simp only[rY]at hy;exact vF.lens y (rO hy)
    ·have:=vF.none hn;simp[this.1,this.2]
    ·obtain⟨h1,cur,h2,h3,h4,h5,h6⟩:=vF.some b vy;refine⟨h1,cur,h2,h3,by simp;omega,h5,λi y hy j c hc=>?_⟩;simp only[rY,ql]at hy;split at hy
     ·obtain⟨u,e1,e2⟩:=h6 i y hy j c hc;exact⟨u,e1,vL _ _ e2⟩
     ·cases hy)
   have hval:∃base cp,ud=.slice base n cp/\n<=cp/\((o.GB=none/\ud=.slice base n 0)∨∃b,o.GB=some b/\ud=.slice (some ⟨b,0,none⟩) n o.cap):=by
    rcases hd with ⟨zj,a0,rfl⟩|⟨b,LU,rfl⟩
    ·have:=vF.none zj;simp only[this.1,qt,tY]at hnl;exact⟨a0,0,rfl,by omega,.inl ⟨zj,rfl⟩⟩
    ·obtain⟨_,_,_,_,h4,_⟩:=vF.some b LU;exact⟨_,o.cap,rfl,by omega,.inr ⟨b,LU,rfl⟩⟩
   obtain⟨base,cp,rfl,hncp,hv⟩:=hval;refine⟨_,_,_,_,_,hk,N6 hu hi base ad n cp c hncp,xG.1,?_,xG.2.1⟩;simp only[Ac];refine⟨_,yX _,by simp,⟨_,_,_,rfl⟩,λ_=>⟨by simp;omega,?_⟩⟩;rcases hv with ⟨zj,hv⟩|⟨b,LU,hv⟩
   ·exact .inl ⟨zj,base,by simpa using hv⟩
   ·have hz:min n o.row.xs.length-n=0:=by omega
    exact .inr ⟨b,LU,by simpa [hz] using hv⟩
  ·obtain⟨b,off,rfl,vm,us,zC,vn,yW,hrep⟩:=hnews (by omega);have hgen:∀(cap:Nat) (wK:List Value),Ha F w os ei.size wK (o.row.xs.take n)->(∀(b:Nat) (cur:Array Value) (k:Nat) (u:Value),o.GB=some b->w.heap[b]?=some (.cells cur o.row.elem (0,0))->k<n*ei.size->cur[k]?=some u->wK[k]?=some u)->n+ys.length<=cap->cap<=maxLen->
     Rel F (os.set id ⟨⟨g+1,o.row.elem,o.row.size,o.row.xs.take n++ys⟩,some w.heap.size,cap,o.more⟩) { s with st:=s.st.set id ⟨g+1,o.row.elem,o.row.size,o.row.xs.take n++ys⟩ } a (w.drew.alloc (.cells (wK.toArray++us.toArray++Builtin.zeroCells z.cells (cap-(n+ys.length))) ei.e))/\
     Ext F os w F (os.set id ⟨⟨g+1,o.row.elem,o.row.size,o.row.xs.take n++ys⟩,some w.heap.size,cap,o.more⟩) (w.drew.alloc (.cells (wK.toArray++us.toArray++Builtin.zeroCells z.cells (cap-(n+ys.length))) ei.e)) k:=λcap wK hold holdv yU xQ=>by
    obtain⟨e1,e2⟩:=Qt (F:=F) (w:=w) (os:=os) (z:=z) (size:=ei.size) (n:=n) (m:=ys.length) (cap:=cap) (by rw[xh,vY]) htk rfl hold hrep yU;have:=hr.SM (k:=k) (o':=⟨⟨g+1,o.row.elem,o.row.size,o.row.xs.take n++ys⟩,some w.heap.size,cap,o.more⟩) ho (w':=w.drew.alloc (.cells (wK.toArray++us.toArray++Builtin.zeroCells z.cells (cap-(n+ys.length))) ei.e)) (Of _ _ _) (by simp[hg]) rfl (λe=>by simp[hg]at e) (λg hg=>by
      rcases hg with hg|hg
      ·simp only[pz]at hg;exact .inr (by omega)
      ·exact .inl (.inr hg)) (λvL=>by
     have hdp:MW (w.drew.alloc (.cells (wK.toArray++us.toArray++Builtin.zeroCells z.cells (cap-(n+ys.length))) ei.e)) ⟨⟨g+1,o.row.elem,o.row.size,o.row.xs.take n++ys⟩,some w.heap.size,cap,o.more⟩:=by
      obtain⟨D,d1,d2,d3⟩:=vF.deep;refine⟨D,d1,d2,λb' vy cur' el l wO i y j e s' zs hy hc=>?_⟩;simp only[pz]at vy hy⊢;subst vy;have hnew:=heap_alloc_new w.drew (.cells (wK.toArray++us.toArray++Builtin.zeroCells z.cells (cap-(n+ys.length))) ei.e);have hcur'':some (Obj.cells (wK.toArray++us.toArray++Builtin.zeroCells z.cells (cap-(n+ys.length))) ei.e)=some (.cells cur' el l):=hnew.symm.trans wO;cases hcur'';have wE:i<n:=by
       rcases rn i n with h|h
       ·exact h
       ·rw[qS (by omega)]at hy;have:=vm y (pt hy);have:=this.2 _ (pt hc);simp[AV.leaf]at this
      rw[qK (by omega),ql,qF wE]at hy;have LU:∃b,o.GB=some b:=by
       cases hbk:o.GB with
       | none=>have:=(vF.none hbk).1;rw[this]at hy;simp at hy
       | some b=>exact⟨b,rfl⟩
      obtain⟨b,LU⟩:=LU;obtain⟨_,cur,vU,_⟩:=vF.some b LU;obtain⟨u,q1,q2⟩:=d3 b LU cur _ _ vU i y j e s' zs hy hc;have zB:j<o.row.size:=by rw[<- (vF.lens y (pt hy)).1];exact (px.1 hc).1
      have xu:i*o.row.size+j<n*ei.size:=by
       have:(i+1)*o.row.size<=n*o.row.size:=qo _ wE;rw[qn]at this;rw[<- Hm];omega
      have q3:=holdv b cur _ u LU vU xu q1;refine⟨u,?_,Og (w:=w) (λ_ h=>h) (λc xH=>heap_alloc_old w.drew _ (vF.mo _ (d1 _ _ _ xH)).2.1) _ u q2⟩;have vS:=(px.1 q3).1;rw[ru (by simp;omega),ru (by simpa using vS)];simpa using q3
     refine⟨vF.pos,λy hy=>?_,by simp,λb vy=>?_,λg hg=>⟨(vF.mo g hg).1,by have:=(vF.mo g hg).2.1;simp;omega,λe=>by simp only[pz]at e;have:=(vF.mo g hg).2.1;omega⟩,hdp⟩
     ·rcases qb.1 hy with h|h
      ·simp only[Hm];exact wG y h
      ·simp only[Hm];exact⟨(vm y h).1,λc hc=>Du ((vm y h).2 c hc)⟩
     ·simp only[pz]at vy;subst vy;refine⟨λhF=>absurd (hr.HO _ hF) (Nat.lt_irrefl _),_,by rw[hel];exact heap_alloc_new w.drew _,by simp only[Hm];exact e1,by simp only[qQ,htk];exact yU,xQ,λi y hy j c hc=>?_⟩;obtain⟨u,f1,f2⟩:=e2 i y hy j c hc;exact⟨u,by simpa only[Hm] using f1,vL _ _ f2⟩)
    exact⟨this.1,this.2.1⟩
   have hfin:∀cap,Ac F (w.drew.alloc (.cells #[] 0)) (os.set id ⟨⟨g+1,o.row.elem,o.row.size,o.row.xs.take n++ys⟩,some w.heap.size,cap,o.more⟩) (.own id (g+1) (n+ys.length)) (.slice (some ⟨w.heap.size,0,none⟩) (n+ys.length) cap):=λcap=>by
    simp only[Ac];exact⟨_,yX _,by simp,⟨_,_,_,rfl⟩,λ_=>⟨by simp only[qQ,htk];omega,.inr ⟨_,rfl,(OM (o:=⟨⟨g+1,o.row.elem,o.row.size,o.row.xs.take n++ys⟩,some w.heap.size,_,o.more⟩) (by rw[qQ,htk])).symm⟩⟩⟩
   have yn:=grownCap_ge w (n+ys.length);have hlem:=sx w (n+ys.length);rcases hd with ⟨zj,a0,rfl⟩|⟨b0,LU,rfl⟩
   ·have hn0:=vF.none zj;simp only[hn0.1,qt,tY]at hnl;subst hnl;have vT:(Builtin.append_ #[t,t] ty #[.slice a0 0 0,.slice (some ⟨b,off,none⟩) ys.length c]).run P w=.ok (.slice (some ⟨w.heap.size,0,none⟩) (0+ys.length) (grownCap w (0+ys.length) 0 ei.e))
      (w.drew.alloc (.cells (([]:List Value).toArray++us.toArray++Builtin.zeroCells z.cells (grownCap w (0+ys.length) 0 ei.e-(0+ys.length))) ei.e)):=by
     cases a0 with
     | none=>
      have:=run_append_nil (P:=P) w t ty ei.e inf z hu hi hz ⟨b,off,none⟩ ys.length c us zC vn (by omega) (by omega) (by rw[<- hby];rw[rT]at hb;omega);simpa using this
     | some a0=>
      have:=sv (P:=P) w t ty ei.e inf z hu hi hz a0 0 0 [] (by simp) (by simp) ⟨b,off,none⟩ ys.length c us zC vn (by omega) (by omega) (tD (by omega) (by rw[<- hby];exact hb));simpa using this
    have hgg:=hgen (grownCap w (0+ys.length) 0 ei.e) [] (by simp[Ha]) (λb cur k u hb=>by rw[zj]at hb;cases hb) (yn 0 ei.e) (hlem 0 ei.e (by simp[maxLen];omega));exact⟨_,_,_,_,_,hk,vT,hgg.1,by simpa [Ac] using hfin _,hgg.2⟩
   ·obtain⟨hnF,cur,vU,xV,hlc,hmaxc,vR⟩:=vF.some b0 LU;by_cases hroom:n+ys.length<=o.cap
    ·have wh:n*inf.size+us.length<=cur.size:=by rw[zC,xV,Hm,vY,<- qn];exact qo _ hroom
     have vT:=run_append_room (P:=P) w t ty ei.e inf hu hi b0 n o.cap cur (by rw[<- hel];exact vU) ⟨b,off,none⟩ ys.length c us zC vn yW hroom wh;have hset':=hr.SM (k:=k) (o':=⟨⟨g+1,o.row.elem,o.row.size,o.row.xs.take n++ys⟩,some b0,o.cap,o.more⟩) ho (w':=w.setRow b0 (cur.toList.take (n*inf.size)++us++cur.toList.drop (n*inf.size+us.length)).toArray) (by rw[LU];exact Iy.setRow _ _ _) (by simp[hg]) rfl (λe=>by simp[hg]at e) (λg hg=>by
       rcases hg with hg|hg
       ·simp only[pz]at hg;exact .inl (.inl (by rw[LU,hg]))
       ·exact .inl (.inr hg)) (λvL=>by
      have hdp:MW (w.setRow b0 (cur.toList.take (n*inf.size)++us++cur.toList.drop (n*inf.size+us.length)).toArray) ⟨⟨g+1,o.row.elem,o.row.size,o.row.xs.take n++ys⟩,some b0,o.cap,o.more⟩:=by
       obtain⟨D,d1,d2,d3⟩:=vF.deep;refine⟨D,d1,d2,λb' vy cur' el l wO i y j e s' zs hy hc=>?_⟩;simp only[pz]at vy hy⊢;subst vy;rw[tZ w b0 cur _ _ _ vU]at wO;cases wO;have wE:i<n:=by
        rcases rn i n with h|h
        ·exact h
        ·rw[qS (by omega)]at hy;have:=vm y (pt hy);have:=this.2 _ (pt hc);simp[AV.leaf]at this
       rw[qK (by omega),ql,qF wE]at hy;obtain⟨u,q1,q2⟩:=d3 b0 LU cur _ _ vU i y j e s' zs hy hc;have zB:j<o.row.size:=by rw[<- (vF.lens y (pt hy)).1];exact (px.1 hc).1
       have xu:i*o.row.size+j<n*inf.size:=by
        have:(i+1)*o.row.size<=n*o.row.size:=qo _ wE;rw[qn]at this;rw[<- vY,<- Hm];omega
       refine⟨u,?_,Og (λ_ h=>h) (λc xH=>setRow_other w b0 c _ λe=>(vF.mo _ (d1 _ _ _ xH)).2.2 (by rw[LU,e])) _ u q2⟩;rw[MG wh,qF xu];exact q1
      refine⟨vF.pos,λy hy=>?_,by simp,λb vy=>?_,λg hg=>⟨(vF.mo g hg).1,by simpa using (vF.mo g hg).2.1,by rw[<- LU];exact (vF.mo g hg).2.2⟩,hdp⟩
      ·rcases qb.1 hy with h|h
       ·simp only[Hm];exact wG y h
       ·simp only[Hm];exact⟨(vm y h).1,λc hc=>Du ((vm y h).2 c hc)⟩
      ·simp only[pz]at vy;subst vy;refine⟨hnF,_,tZ w b0 cur _ _ _ vU,?_,by simp only[qQ,htk];exact hroom,hmaxc,λi y hy j c hc=>?_⟩
       ·simp only[sY,qQ,sM,sB,sG]at wh⊢;rw[<- xV];omega
       ·simp only at hy⊢;rw[MG wh];by_cases wE:i<n
        ·rw[qK (by omega),ql,qF wE]at hy;obtain⟨u,f1,f2⟩:=vR i y hy j c hc;have zB:j<o.row.size:=by rw[<- (vF.lens y (pt hy)).1];exact (px.1 hc).1
         have:(i+1)*o.row.size<=n*o.row.size:=qo _ wE;rw[qn]at this;refine⟨u,?_,vL _ _ f2⟩;rw[qF (by rw[<- vY,<- Hm];omega)];exact f1
        ·rw[qS (by omega),htk]at hy;obtain⟨u,f1,f2⟩:=hrep.2 _ y hy j c hc;refine⟨u,?_,vL _ _ f2⟩;have vS:=(px.1 f1).1;have h3:n*o.row.size<=i*o.row.size:=qo _ (by omega);rw[Nat.sub_mul]at f1 vS;rw[<- Hm]at f1 vS;rw[qG (by rw[<- vY,<- Hm];omega),qF (by rw[<- vY,<- Hm];omega),<- f1];congr 1;rw[<- vY,<- Hm];omega)
     refine⟨_,_,_,_,_,hk,vT,hset'.1,?_,hset'.2.1⟩;simp only[Ac];exact⟨_,yX _,by simp,⟨_,_,_,rfl⟩,λ_=>⟨by simp only[qQ,htk];omega,.inr ⟨_,rfl,by simp[hnw]⟩⟩⟩
    ·
     have hold:∀(i:Nat) y,(o.row.xs.take n)[i]?=some y->Oh F w os b0 (0+i*ei.size) y:=λi y hy=>by
      rw[ql]at hy;split at hy
      ·have:=hr.Si ho LU hy;rw[Hm]at this;simpa using this
      ·cases hy
     obtain⟨wK,h1,h2,_,h4⟩:=SZ (λx hx=>(wG x hx).1) hold;have vT:=sv (P:=P) w t ty ei.e inf z hu hi hz ⟨b0,0,none⟩ n o.cap wK (by rw[h1,htk,vY]) h2 ⟨b,off,none⟩ ys.length c us zC vn (by omega) (by omega) (tD (by omega) (by rw[<- hby];exact hb));have hgg:=hgen (grownCap w (n+ys.length) o.cap ei.e) wK ⟨h1,λi y hy j c hc=>by obtain⟨u,f1,_,f2⟩:=h4 i y hy j c hc;exact⟨u,f1,f2⟩⟩ (λb cur' k u vy wO hk q=>by
      rw[LU]at vy;cases vy;rw[vU]at wO;cases wO;have xu:k<wK.length:=by rw[h1,htk];exact hk
      have:=h2 k _ (qD xu);rw[Db,sb w b0 _ cur _ _ vU,rT,q]at this;rw[qD xu,<- this]) (yn o.cap ei.e) (hlem o.cap ei.e (by simp[maxLen];omega))
     exact⟨_,_,_,_,_,hk,vT,hgg.1,by simpa [Ac] using hfin _,hgg.2⟩
 | _=>exact h.elim
end Go.Abs
