import Derived.Test.YtgiajkaabnbieaaGreatAbsE
set_option linter.all false
namespace Go.Abs
open Go
variable {P : Program} {F : Nat -> Prop} {os : List Own} {s : St} {a : Act} {w : World} {k : Nat}
def IL (F:Nat->Prop)(w:World)(os:List Own)(size:Nat)(us:List Value)(xs:List (List AV)):Prop:=
 us.length=xs.length*size/\∀(i:Nat) x,xs[i]?=some x->∀(j:Nat) c,x[j]?=some c->∃u,us[i*size+j]?=some u/\Ae F w os c u
theorem IL.nil {size:Nat}:IL F w os size [] []:=⟨by simp,by simp⟩
theorem IL.append {size:Nat}{us vs:List Value}{xs ys:List (List AV)}(h:IL F w os size us xs)(g:IL F w os size vs ys):IL F w os size (us++vs) (xs++ys):=by
 refine⟨by rw[ml,ml,h.1,g.1,nJ],λi x hi j c hc=>?_⟩;by_cases rJ:i<xs.length
 ·rw[mM rJ]at hi;obtain⟨u,h1,h2⟩:=h.2 i x hi j c hc;exact⟨u,by rw[mM (mC.1 h1).1];exact h1,h2⟩
 ·rw[mP (by omega)]at hi;obtain⟨u,h1,h2⟩:=g.2 _ x hi j c hc;refine⟨u,?_,h2⟩;have:xs.length*size<=i*size:=nE _ (by omega);rw[mP (by rw[h.1];omega),<- h1,h.1];congr 1;rw[Nat.sub_mul];omega
theorem Rel.WC (hr:Rel F os s a w){e:TypeId}{size:Nat}(ru:0<size):
  let o:Own:=⟨⟨0,e,size,[]⟩,none,0,Fj⟩
  Rel F (os++[o]) { s with st:=s.st++[o.row] } a w/\Ext F os w F (os++[o]) w k/\(∀x v,Ae F w os x v->Ae F w (os++[o]) x v):=by
 intro o;have rD:∀(i:Nat) (oi:Own),(os++[o])[i]?=some oi->os[i]?=some oi∨(i=os.length/\oi=o):=λi oi hi=>by
  rcases ng i os.length with h|h|h
  ·rw[mM h]at hi;exact .inl hi
  ·subst h;simp at hi;exact .inr ⟨rfl,hi.symm⟩
  ·rw[mP (by omega),nH (by simp;omega)]at hi;cases hi
 have:=hr.Xl (k:=k) (G7.refl w none) (by simp) (os':=os++[o]) (Ex.append os [o]) (λi oi hi=>by
   rcases rD i oi hi with h|⟨_,rfl⟩
   ·exact .inl ⟨h,by simp⟩
   ·exact .inr ⟨ru,by simp[o],by simp[o],by simp[o],λg hg=>hg.elim,Fv (by simp[o])⟩)
  (λi j oi oj g hi hj uQ uR=>by
   rcases rD i oi hi with h|⟨h,rfl⟩<;>rcases rD j oj hj with h'|⟨h',rfl⟩
   ·exact hr.inj i j oi oj g h h' uQ uR
   ·simp[o,Own.owns,Fj]at uR
   ·simp[o,Own.owns,Fj]at uQ
   ·omega)
  (λo' rW g hg=>by
   rcases my.1 rW with h|h
   ·exact .inr ⟨o',h,hg⟩
   ·simp only[mv]at h;subst h;simp[o,Own.owns,Fj]at hg)
  (by simp)
 refine⟨?_,this.2.1,this.2.2⟩;have h1:=this.1;rw[mu,hr.st]at h1;simpa using h1
theorem Mh {t ty e:TypeId}{i:TypeInfo}(ht:P.underlying t=some (.slice e))(hi:P.info? e=some i)(base ad:Option Addr)(n cap c:Nat)(hn:n<=cap):
  (Builtin.append_ #[t,t] ty #[.slice base n cap,.slice ad 0 c]).run P w=.ok (.slice base n cap) w:=by
 have hf:(Builtin.firstCells i.size 0 (.slice ad 0 c)).run P w=.ok #[] w:=by
  cases ad<;>simp[Builtin.firstCells,loadCells,loadCellsFrom]
 cases base<;>simp[Builtin.append_,nR ht,sizeOf,typeInfo,hi,Builtin.lenOf,hn,hf,storeCells]
theorem Je {α:Type}(l:List α)(x:α):(l++[x])[l.length]?=some x:=by simp
theorem Sd {size n m cap:Nat}{z:Value}(sq:z.cells.size=size){us vs:List Value}{xs ys:List (List AV)}(hxn:xs.length=n)(hyn:ys.length=m)
  (h:IL F w os size us xs) (g:IL F w os size vs ys) (vQ:n+m<=cap) :
  (us.toArray++vs.toArray++Builtin.zeroCells z.cells (cap-(n+m))).size=cap*size/\
  ∀(i:Nat) x,(xs++ys)[i]?=some x->∀(j:Nat) c,x[j]?=some c->∃u,(us.toArray++vs.toArray++Builtin.zeroCells z.cells (cap-(n+m)))[i*size+j]?=some u/\Ae F w os c u:=by
 have xI:=IL.append h g;constructor
 ·simp only[Array.size_append,pL,pA,sq,h.1,g.1,hxn,hyn,<- nJ];congr 1;omega
 ·intro i x hi j c hc;obtain⟨u,h1,h2⟩:=xI.2 i x hi j c hc;refine⟨u,?_,h2⟩;have rJ:=(mC.1 h1).1;rw[oG (by simpa using rJ)];simpa using h1
theorem Zy {t ty:TypeId}{d x:AV}{ud ux:Value}{K:AV->List Row->Prop}(hr:Rel F os s a w)(h:Vu P s.st t d x K)(hd:Ae F w os d ud)(hx:Ae F w os x ux):
  HG P k F os s a w (Builtin.append_ #[t,t] ty #[ud,ux]) K:=by
 obtain⟨ei,he,h⟩:=Ax h;obtain⟨inf,z,hu,hi,hz,sq,ru,rP,hby,_,_⟩:=IY he;obtain⟨ys,h,hys,zH,⟨ad,c,rfl,wU⟩⟩:=bf hr h hx;have zH:∀y∈ys,∀c∈y,c.leaf=true:=by
  rcases zH with rfl|h
  ·simp
  ·exact h
 have yR:0<ys.length->∃b o,ad=some ⟨b,o,none⟩/\(∀y∈ys,y.length=ei.size/\∀c∈y,c.leaf=true)/\∃us:List Value,us.length=ys.length*inf.size/\(∀(j:Nat) u,us[j]?=some u->w.cell? ((⟨b,o,none⟩:Addr).add j)=some u)/\(∀u∈us,u.oneCell'=true)/\IL F w os ei.size us ys:=λhp=>by
  rcases wU with rfl|⟨b,o,rfl,hc⟩
  ·simp at hp
  ·obtain⟨us,h1,h2,h3,h4⟩:=Xe hys hc;refine⟨b,o,rfl,λy hy=>⟨hys y hy,zH y hy⟩,us,by rw[h1,rP],h2,h3,h1,λi y hy j c hc=>?_⟩;obtain⟨u,e1,_,e2⟩:=h4 i y hy j c hc;exact⟨u,e1,e2⟩
 cases d with
 | zc=>
  obtain⟨hb,hm,hk⟩:=h;simp only[Ae]at hd;obtain⟨ad0,rfl⟩:=hd;by_cases zI:ys.length=0
  ·have zJ:ys=[]:=mh zI;subst zJ;have:=hr.WC (k:=k) (e:=ei.e) (size:=ei.size) (by omega);refine⟨_,_,_,_,_,hk,Mh hu hi ad0 ad 0 0 c (mS _),this.1,?_,this.2.1⟩;simp only[Ae];exact⟨⟨⟨0,ei.e,ei.size,[]⟩,none,0,Fj⟩,by rw[hr.len];simp,by simp,⟨_,_,_,rfl⟩,λ_=>⟨by simp,.inl ⟨rfl,_,rfl⟩⟩⟩
  ·obtain⟨b,o,rfl,ri,us,vr,sF,xW,hrep⟩:=yR (by omega);have tV:=ph w ys.length 0 ei.e;have hle:=oe w ys.length 0 ei.e (by simp[maxLen];omega);have rO:(Builtin.append_ #[t,t] ty #[.slice ad0 0 0,.slice (some ⟨b,o,none⟩) ys.length c]).run P w=.ok (.slice (some ⟨w.heap.size,0,none⟩) ys.length (grownCap w ys.length 0 ei.e))
     (w.drew.alloc (.cells (([]:List Value).toArray++us.toArray++Builtin.zeroCells z.cells (grownCap w ys.length 0 ei.e-(0+ys.length))) ei.e)):=by
    cases ad0 with
    | none=>
     have:=run_append_nil (P:=P) w t ty ei.e inf z hu hi hz ⟨b,o,none⟩ ys.length c us vr sF (by omega) (by omega) (by rw[<- hby];omega);simpa using this
    | some a0=>
     have:=run_append_grow (P:=P) w t ty ei.e inf z hu hi hz a0 0 0 [] (by simp) (by simp) ⟨b,o,none⟩ ys.length c us vr sF (by omega) (by omega) (growslice_fits (by omega) (by rw[<- hby,nS];exact hb));simpa using this
   obtain⟨e1,e2⟩:=Sd (F:=F) (w:=w) (os:=os) (z:=z) (size:=ei.size) (n:=0) (m:=ys.length) (cap:=grownCap w ys.length 0 ei.e) (by rw[sq,rP]) (by rfl) rfl IL.nil hrep (by omega);have:=hr.Qb (k:=k) (.inr rfl) (cur:=_) (e:=ei.e) (size:=ei.size) (cap:=grownCap w ys.length 0 ei.e) (xs:=ys) (by omega) ri e1 tV hle (λi x hx j c hc=>e2 i x (by simpa using hx) j c hc);refine⟨_,_,_,_,_,hk,rO,this.1,?_,this.2.1⟩;simp only[Ae];exact⟨⟨⟨0,ei.e,ei.size,ys⟩,some w.heap.size,grownCap w ys.length 0 ei.e,Fj⟩,by rw[hr.len];exact Je _ _,mS _,⟨_,_,_,rfl⟩,λ_=>⟨mS _,.inr ⟨_,rfl,by simp⟩⟩⟩
 | own id g n=>
  obtain⟨row,qo,hg,xH,yS,Gl,hb,hm,hk⟩:=Ax h;obtain⟨o,ho,rfl⟩:=hr.row qo;simp only[Ae]at hd;obtain⟨o',rW,tV,_,hd⟩:=hd;rw[ho]at rW;cases rW;obtain⟨hnl,hd⟩:=hd hg;simp only[Lb xH]at hd;have qu:=hr.rows id o ho;have vt:(o.row.xs.take n).length=n:=by simp;omega
  have uU:∀o':Own,(os.set id o')[id]?=some o':=λo'=>mN (mC.1 ho).1;have tE:∀x∈o.row.xs.take n,x.length=ei.size/\∀c∈x,c.kept=true:=λx hx=>by
   have:=qu.lens x (ns hx);rw[Gl]at this;exact this
  by_cases zI:ys.length=0
  ·have zJ:ys=[]:=mh zI;subst zJ;have si:=hr.Ok (k:=k) (o':={ o with row:={ o.row with gen:=g+1,xs:=o.row.xs.take n++[] } }) ho (w':=w) (G7.refl w _) (by simp[hg]) rfl (λe=>by simp[hg]at e) (λg hg=>.inl hg) (λrC=>by
    refine⟨qu.pos,λy hy=>?_,λhn=>?_,λb rZ=>?_,qu.mo,qu.deep.keep rfl (λ_ h=>h) rfl (λ_ _=>rfl) (λi x j e s ys hx hc=>by
     simp only[nK,mi]at hx;split at hx
     ·exact⟨x,hx,hc⟩
     ·cases hx)⟩
    ·simp only[nK]at hy;exact qu.lens y (ns hy)
    ·have:=qu.none hn;simp[this.1,this.2]
    ·obtain⟨h1,cur,h2,h3,h4,h5,h6⟩:=qu.some b rZ;refine⟨h1,cur,h2,h3,by simp;omega,h5,λi y hy j c hc=>?_⟩;simp only[nK,mi]at hy;split at hy
     ·obtain⟨u,e1,e2⟩:=h6 i y hy j c hc;exact⟨u,e1,rC _ _ e2⟩
     ·cases hy)
   have xX:∃base cp,ud=.slice base n cp/\n<=cp/\((o.DM=none/\ud=.slice base n 0)∨∃b,o.DM=some b/\ud=.slice (some ⟨b,0,none⟩) n o.cap):=by
    rcases hd with ⟨wI,a0,rfl⟩|⟨b,La,rfl⟩
    ·have:=qu.none wI;simp only[this.1,nN,pg]at hnl;exact⟨a0,0,rfl,by omega,.inl ⟨wI,rfl⟩⟩
    ·obtain⟨_,_,_,_,h4,_⟩:=qu.some b La;exact⟨_,o.cap,rfl,by omega,.inr ⟨b,La,rfl⟩⟩
   obtain⟨base,cp,rfl,hncp,hv⟩:=xX;refine⟨_,_,_,_,_,hk,Mh hu hi base ad n cp c hncp,si.1,?_,si.2.1⟩;simp only[Ae];refine⟨_,uU _,by simp,⟨_,_,_,rfl⟩,λ_=>⟨by simp;omega,?_⟩⟩;rcases hv with ⟨wI,hv⟩|⟨b,La,hv⟩
   ·exact .inl ⟨wI,base,by simpa using hv⟩
   ·have hz:min n o.row.xs.length-n=0:=by omega
    exact .inr ⟨b,La,by simpa [hz] using hv⟩
  ·obtain⟨b,off,rfl,ri,us,vr,sF,xW,hrep⟩:=yR (by omega);have hgen:∀(cap:Nat) (tN:List Value),IL F w os ei.size tN (o.row.xs.take n)->(∀(b:Nat) (cur:Array Value) (k:Nat) (u:Value),o.DM=some b->w.heap[b]?=some (.cells cur o.row.elem (0,0))->k<n*ei.size->cur[k]?=some u->tN[k]?=some u)->n+ys.length<=cap->cap<=maxLen->
     Rel F (os.set id ⟨⟨g+1,o.row.elem,o.row.size,o.row.xs.take n++ys⟩,some w.heap.size,cap,o.more⟩) { s with st:=s.st.set id ⟨g+1,o.row.elem,o.row.size,o.row.xs.take n++ys⟩ } a (w.drew.alloc (.cells (tN.toArray++us.toArray++Builtin.zeroCells z.cells (cap-(n+ys.length))) ei.e))/\
     Ext F os w F (os.set id ⟨⟨g+1,o.row.elem,o.row.size,o.row.xs.take n++ys⟩,some w.heap.size,cap,o.more⟩) (w.drew.alloc (.cells (tN.toArray++us.toArray++Builtin.zeroCells z.cells (cap-(n+ys.length))) ei.e)) k:=λcap tN hold holdv vQ sb=>by
    obtain⟨e1,e2⟩:=Sd (F:=F) (w:=w) (os:=os) (z:=z) (size:=ei.size) (n:=n) (m:=ys.length) (cap:=cap) (by rw[sq,rP]) vt rfl hold hrep vQ;have:=hr.Ok (k:=k) (o':=⟨⟨g+1,o.row.elem,o.row.size,o.row.xs.take n++ys⟩,some w.heap.size,cap,o.more⟩) ho (w':=w.drew.alloc (.cells (tN.toArray++us.toArray++Builtin.zeroCells z.cells (cap-(n+ys.length))) ei.e)) (Ij _ _ _) (by simp[hg]) rfl (λe=>by simp[hg]at e) (λg hg=>by
      rcases hg with hg|hg
      ·simp only[mE]at hg;exact .inr (by omega)
      ·exact .inl (.inr hg)) (λrC=>by
     have hdp:Ko (w.drew.alloc (.cells (tN.toArray++us.toArray++Builtin.zeroCells z.cells (cap-(n+ys.length))) ei.e)) ⟨⟨g+1,o.row.elem,o.row.size,o.row.xs.take n++ys⟩,some w.heap.size,cap,o.more⟩:=by
      obtain⟨D,d1,d2,d3⟩:=qu.deep;refine⟨D,d1,d2,λb' rZ sB el l rX i y j e s' zs hy hc=>?_⟩;simp only[mE]at rZ hy⊢;subst rZ;have zK:=oW w.drew (.cells (tN.toArray++us.toArray++Builtin.zeroCells z.cells (cap-(n+ys.length))) ei.e);have zL:some (Obj.cells (tN.toArray++us.toArray++Builtin.zeroCells z.cells (cap-(n+ys.length))) ei.e)=some (.cells sB el l):=zK.symm.trans rX;cases zL;have su:i<n:=by
       rcases oO i n with h|h
       ·exact h
       ·rw[mP (by omega)]at hy;have:=ri y (mB hy);have:=this.2 _ (mB hc);simp[AV.leaf]at this
      rw[mM (by omega),mi,mI su]at hy;have La:∃b,o.DM=some b:=by
       cases hbk:o.DM with
       | none=>have:=(qu.none hbk).1;rw[this]at hy;simp at hy
       | some b=>exact⟨b,rfl⟩
      obtain⟨b,La⟩:=La;obtain⟨_,cur,rE,_⟩:=qu.some b La;obtain⟨u,q1,q2⟩:=d3 b La cur _ _ rE i y j e s' zs hy hc;have uG:j<o.row.size:=by rw[<- (qu.lens y (mB hy)).1];exact (mC.1 hc).1
      have uH:i*o.row.size+j<n*ei.size:=by
       have:(i+1)*o.row.size<=n*o.row.size:=nE _ su;rw[nJ]at this;rw[<- Gl];omega
      have q3:=holdv b cur _ u La rE uH q1;refine⟨u,?_,JX (w:=w) (λ_ h=>h) (λc vB=>heap_alloc_old w.drew _ (qu.mo _ (d1 _ _ _ vB)).2.1) _ u q2⟩;have rJ:=(mC.1 q3).1;rw[oG (by simp;omega),oG (by simpa using rJ)];simpa using q3
     refine⟨qu.pos,λy hy=>?_,by simp,λb rZ=>?_,λg hg=>⟨(qu.mo g hg).1,by have:=(qu.mo g hg).2.1;simp;omega,λe=>by simp only[mE]at e;have:=(qu.mo g hg).2.1;omega⟩,hdp⟩
     ·rcases my.1 hy with h|h
      ·simp only[Gl];exact tE y h
      ·simp only[Gl];exact⟨(ri y h).1,λc hc=>Dr ((ri y h).2 c hc)⟩
     ·simp only[mE]at rZ;subst rZ;refine⟨λhF=>absurd (hr.F6 _ hF) (pj _),_,by rw[yS];exact oW w.drew _,by simp only[Gl];exact e1,by simp only[ml,vt];exact vQ,sb,λi y hy j c hc=>?_⟩;obtain⟨u,f1,f2⟩:=e2 i y hy j c hc;exact⟨u,by simpa only[Gl] using f1,rC _ _ f2⟩)
    exact⟨this.1,this.2.1⟩
   have vu:∀cap,Ae F (w.drew.alloc (.cells #[] 0)) (os.set id ⟨⟨g+1,o.row.elem,o.row.size,o.row.xs.take n++ys⟩,some w.heap.size,cap,o.more⟩) (.own id (g+1) (n+ys.length)) (.slice (some ⟨w.heap.size,0,none⟩) (n+ys.length) cap):=λcap=>by
    simp only[Ae];exact⟨_,uU _,by simp,⟨_,_,_,rfl⟩,λ_=>⟨by simp only[ml,vt];omega,.inr ⟨_,rfl,(Lb (o:=⟨⟨g+1,o.row.elem,o.row.size,o.row.xs.take n++ys⟩,some w.heap.size,_,o.more⟩) (by rw[ml,vt])).symm⟩⟩⟩
   have tV:=ph w (n+ys.length);have hlem:=oe w (n+ys.length);rcases hd with ⟨wI,a0,rfl⟩|⟨b0,La,rfl⟩
   ·have hn0:=qu.none wI;simp only[hn0.1,nN,pg]at hnl;subst hnl;have rO:(Builtin.append_ #[t,t] ty #[.slice a0 0 0,.slice (some ⟨b,off,none⟩) ys.length c]).run P w=.ok (.slice (some ⟨w.heap.size,0,none⟩) (0+ys.length) (grownCap w (0+ys.length) 0 ei.e))
      (w.drew.alloc (.cells (([]:List Value).toArray++us.toArray++Builtin.zeroCells z.cells (grownCap w (0+ys.length) 0 ei.e-(0+ys.length))) ei.e)):=by
     cases a0 with
     | none=>
      have:=run_append_nil (P:=P) w t ty ei.e inf z hu hi hz ⟨b,off,none⟩ ys.length c us vr sF (by omega) (by omega) (by rw[<- hby];rw[nS]at hb;omega);simpa using this
     | some a0=>
      have:=run_append_grow (P:=P) w t ty ei.e inf z hu hi hz a0 0 0 [] (by simp) (by simp) ⟨b,off,none⟩ ys.length c us vr sF (by omega) (by omega) (growslice_fits (by omega) (by rw[<- hby];exact hb));simpa using this
    have zM:=hgen (grownCap w (0+ys.length) 0 ei.e) [] (by simp[IL]) (λb cur k u hb=>by rw[wI]at hb;cases hb) (tV 0 ei.e) (hlem 0 ei.e (by simp[maxLen];omega));exact⟨_,_,_,_,_,hk,rO,zM.1,by simpa [Ae] using vu _,zM.2⟩
   ·obtain⟨xG,cur,rE,sQ,zG,yU,rF⟩:=qu.some b0 La;by_cases sA:n+ys.length<=o.cap
    ·have uz:n*inf.size+us.length<=cur.size:=by rw[vr,sQ,Gl,rP,<- nJ];exact nE _ sA
     have rO:=run_append_room (P:=P) w t ty ei.e inf hu hi b0 n o.cap cur (by rw[<- yS];exact rE) ⟨b,off,none⟩ ys.length c us vr sF xW sA uz;have yV:=hr.Ok (k:=k) (o':=⟨⟨g+1,o.row.elem,o.row.size,o.row.xs.take n++ys⟩,some b0,o.cap,o.more⟩) ho (w':=w.setRow b0 (cur.toList.take (n*inf.size)++us++cur.toList.drop (n*inf.size+us.length)).toArray) (by rw[La];exact G7.setRow _ _ _) (by simp[hg]) rfl (λe=>by simp[hg]at e) (λg hg=>by
       rcases hg with hg|hg
       ·simp only[mE]at hg;exact .inl (.inl (by rw[La,hg]))
       ·exact .inl (.inr hg)) (λrC=>by
      have hdp:Ko (w.setRow b0 (cur.toList.take (n*inf.size)++us++cur.toList.drop (n*inf.size+us.length)).toArray) ⟨⟨g+1,o.row.elem,o.row.size,o.row.xs.take n++ys⟩,some b0,o.cap,o.more⟩:=by
       obtain⟨D,d1,d2,d3⟩:=qu.deep;refine⟨D,d1,d2,λb' rZ sB el l rX i y j e s' zs hy hc=>?_⟩;simp only[mE]at rZ hy⊢;subst rZ;rw[setRow_heap w b0 cur _ _ _ rE]at rX;cases rX;have su:i<n:=by
        rcases oO i n with h|h
        ·exact h
        ·rw[mP (by omega)]at hy;have:=ri y (mB hy);have:=this.2 _ (mB hc);simp[AV.leaf]at this
       rw[mM (by omega),mi,mI su]at hy;obtain⟨u,q1,q2⟩:=d3 b0 La cur _ _ rE i y j e s' zs hy hc;have uG:j<o.row.size:=by rw[<- (qu.lens y (mB hy)).1];exact (mC.1 hc).1
       have uH:i*o.row.size+j<n*inf.size:=by
        have:(i+1)*o.row.size<=n*o.row.size:=nE _ su;rw[nJ]at this;rw[<- rP,<- Gl];omega
       refine⟨u,?_,JX (λ_ h=>h) (λc vB=>setRow_other w b0 c _ λe=>(qu.mo _ (d1 _ _ _ vB)).2.2 (by rw[La,e])) _ u q2⟩;rw[MK uz,mI uH];exact q1
      refine⟨qu.pos,λy hy=>?_,by simp,λb rZ=>?_,λg hg=>⟨(qu.mo g hg).1,by simpa using (qu.mo g hg).2.1,by rw[<- La];exact (qu.mo g hg).2.2⟩,hdp⟩
      ·rcases my.1 hy with h|h
       ·simp only[Gl];exact tE y h
       ·simp only[Gl];exact⟨(ri y h).1,λc hc=>Dr ((ri y h).2 c hc)⟩
      ·simp only[mE]at rZ;subst rZ;refine⟨xG,_,setRow_heap w b0 cur _ _ _ rE,?_,by simp only[ml,vt];exact sA,yU,λi y hy j c hc=>?_⟩
       ·simp only[pL,ml,nT,pQ,nX]at uz⊢;rw[<- sQ];omega
       ·simp only at hy⊢;rw[MK uz];by_cases su:i<n
        ·rw[mM (by omega),mi,mI su]at hy;obtain⟨u,f1,f2⟩:=rF i y hy j c hc;have uG:j<o.row.size:=by rw[<- (qu.lens y (mB hy)).1];exact (mC.1 hc).1
         have:(i+1)*o.row.size<=n*o.row.size:=nE _ su;rw[nJ]at this;refine⟨u,?_,rC _ _ f2⟩;rw[mI (by rw[<- rP,<- Gl];omega)];exact f1
        ·rw[mP (by omega),vt]at hy;obtain⟨u,f1,f2⟩:=hrep.2 _ y hy j c hc;refine⟨u,?_,rC _ _ f2⟩;have rJ:=(mC.1 f1).1;have h3:n*o.row.size<=i*o.row.size:=nE _ (by omega);rw[Nat.sub_mul]at f1 rJ;rw[<- Gl]at f1 rJ;rw[mJ (by rw[<- rP,<- Gl];omega),mI (by rw[<- rP,<- Gl];omega),<- f1];congr 1;rw[<- rP,<- Gl];omega)
     refine⟨_,_,_,_,_,hk,rO,yV.1,?_,yV.2.1⟩;simp only[Ae];exact⟨_,uU _,by simp,⟨_,_,_,rfl⟩,λ_=>⟨by simp only[ml,vt];omega,.inr ⟨_,rfl,by simp[xH]⟩⟩⟩
    ·
     have hold:∀(i:Nat) y,(o.row.xs.take n)[i]?=some y->OV F w os b0 (0+i*ei.size) y:=λi y hy=>by
      rw[mi]at hy;split at hy
      ·have:=hr.T8 ho La hy;rw[Gl]at this;simpa using this
      ·cases hy
     obtain⟨tN,h1,h2,_,h4⟩:=Xe (λx hx=>(tE x hx).1) hold;have rO:=run_append_grow (P:=P) w t ty ei.e inf z hu hi hz ⟨b0,0,none⟩ n o.cap tN (by rw[h1,vt,rP]) h2 ⟨b,off,none⟩ ys.length c us vr sF (by omega) (by omega) (growslice_fits (by omega) (by rw[<- hby];exact hb));have zM:=hgen (grownCap w (n+ys.length) o.cap ei.e) tN ⟨h1,λi y hy j c hc=>by obtain⟨u,f1,_,f2⟩:=h4 i y hy j c hc;exact⟨u,f1,f2⟩⟩ (λb sB k u rZ rX hk q=>by
      rw[La]at rZ;cases rZ;rw[rE]at rX;cases rX;have uH:k<tN.length:=by rw[h1,vt];exact hk
      have:=h2 k _ (mH uH);rw[Ct,oE w b0 _ cur _ _ rE,nS,q]at this;rw[mH uH,<- this]) (tV o.cap ei.e) (hlem o.cap ei.e (by simp[maxLen];omega))
     exact⟨_,_,_,_,_,hk,rO,zM.1,by simpa [Ae] using vu _,zM.2⟩
 | _=>exact h.elim
end Go.Abs
