import Derived.Test.YtihdgoiebmfapaaGreatAbsE
set_option linter.all false
namespace Go.Abs
open Go
variable {P : Program} {F : Nat -> Prop} {os : List Own} {s : St} {a : Act} {w : World} {k : Nat}
def HH (F:Nat->Prop)(w:World)(os:List Own)(size:Nat)(us:List Value)(xs:List (List AV)):Prop:=
 us.length=xs.length*size/\∀(i:Nat) x,xs[i]?=some x->∀(j:Nat) c,x[j]?=some c->∃u,us[i*size+j]?=some u/\Ab F w os c u
theorem HH.nil {size:Nat}:HH F w os size [] []:=⟨by simp,by simp⟩
theorem HH.append {size:Nat}{us vs:List Value}{xs ys:List (List AV)}(h:HH F w os size us xs)(g:HH F w os size vs ys):HH F w os size (us++vs) (xs++ys):=by
 refine⟨by rw[pW,pW,h.1,g.1,px],λi x hi j c hc=>?_⟩;by_cases uV:i<xs.length
 .rw[pN uV]at hi;obtain⟨u,h1,h2⟩:=h.2 i x hi j c hc;exact⟨u,by rw[pN (pB.1 h1).1];exact h1,h2⟩
 .rw[pO (by omega)]at hi;obtain⟨u,h1,h2⟩:=g.2 _ x hi j c hc;refine⟨u,?_,h2⟩;have:xs.length*size<=i*size:=qC _ (by omega);rw[pO (by rw[h.1];omega),<- h1,h.1];congr 1;rw[Nat.sub_mul];omega
theorem Rel.YK (hr:Rel F os s a w){e:TypeId}{size:Nat}(vA:0<size):
  let o:Own:=⟨⟨0,e,size,[]⟩,none,0,GG⟩
  Rel F (os++[o]) { s with st:=s.st++[o.row] } a w/\Ext F os w F (os++[o]) w k/\(∀x v,Ab F w os x v->Ab F w (os++[o]) x v):=by
 intro o;have uF:∀(i:Nat) (oi:Own),(os++[o])[i]?=some oi->os[i]?=some oi∨(i=os.length/\oi=o):=λi oi hi=>by
  rcases ql i os.length with h|h|h
  .rw[pN h]at hi;exact .inl hi
  .subst h;simp at hi;exact .inr ⟨rfl,hi.symm⟩
  .rw[pO (by omega),qB (by simp;omega)]at hi;cases hi
 have:=hr.Zt (k:=k) (HF.refl w none) (by simp) (os':=os++[o]) (Fv.append os [o]) (λi oi hi=>by
   rcases uF i oi hi with h|⟨_,rfl⟩
   .exact .inl ⟨h,by simp⟩
   .exact .inr ⟨vA,by simp[o],by simp[o],by simp[o],λg hg=>hg.elim,EK (by simp[o])⟩)
  (λi j oi oj g hi hj zO zP=>by
   rcases uF i oi hi with h|⟨h,rfl⟩<;>rcases uF j oj hj with h'|⟨h',rfl⟩
   .exact hr.inj i j oi oj g h h' zO zP
   .simp[o,Own.owns,GG]at zP
   .simp[o,Own.owns,GG]at zO
   .omega)
  (λo' uz g hg=>by
   rcases pY.1 uz with h|h
   .exact .inr ⟨o',h,hg⟩
   .simp only[pU]at h;subst h;simp[o,Own.owns,GG]at hg)
  (by simp)
 refine⟨?_,this.2.1,this.2.2⟩;have h1:=this.1;rw[qv,hr.st]at h1;simpa using h1
theorem Mj {t ty e:TypeId}{i:TypeInfo}(ht:P.underlying t=some (.slice e))(hi:P.info? e=some i)(base ad:Option Addr)(n cap c:Nat)(hn:n<=cap):
  (Builtin.append_ #[t,t] ty #[.slice base n cap,.slice ad 0 c]).run P w=.ok (.slice base n cap) w:=by
 have hf:(Builtin.firstCells i.size 0 (.slice ad 0 c)).run P w=.ok #[] w:=by
  cases ad<;>simp[Builtin.firstCells,loadCells,loadCellsFrom]
 cases base<;>simp[Builtin.append_,qR ht,sizeOf,typeInfo,hi,Builtin.lenOf,hn,hf,storeCells]
theorem J1 {α:Type}(l:List α)(x:α):(l++[x])[l.length]?=some x:=by simp
theorem Pf {size n m cap:Nat}{z:Value}(wb:z.cells.size=size){us vs:List Value}{xs ys:List (List AV)}(hxn:xs.length=n)(hyn:ys.length=m)
  (h:HH F w os size us xs) (g:HH F w os size vs ys) (xN:n+m<=cap) :
  (us.toArray++vs.toArray++Builtin.zeroCells z.cells (cap-(n+m))).size=cap*size/\
  ∀(i:Nat) x,(xs++ys)[i]?=some x->∀(j:Nat) c,x[j]?=some c->∃u,(us.toArray++vs.toArray++Builtin.zeroCells z.cells (cap-(n+m)))[i*size+j]?=some u/\Ab F w os c u:=by
 have yO:=HH.append h g;constructor
 .simp only[sv,rY,su,wb,h.1,g.1,hxn,hyn,<- px];congr 1;omega
 .intro i x hi j c hc;obtain⟨u,h1,h2⟩:=yO.2 i x hi j c hc;refine⟨u,?_,h2⟩;have uV:=(pB.1 h1).1;rw[qz (by simpa using uV)];simpa using h1
theorem bw {t ty:TypeId}{d x:AV}{ud ux:Value}{K:AV->List Row->Prop}(hr:Rel F os s a w)(h:XB P s.st t d x K)(hd:Ab F w os d ud)(hx:Ab F w os x ux):
  Im P k F os s a w (Builtin.append_ #[t,t] ty #[ud,ux]) K:=by
 obtain⟨ei,he,h⟩:=BN h;obtain⟨inf,z,hu,hi,hz,wb,vA,uf,hby,_,_⟩:=HX he;obtain⟨ys,h,hys,zS,⟨ad,c,rfl,hsrc⟩⟩:=X7 hr h hx;have zS:∀y∈ys,∀c∈y,c.leaf=true:=by
  rcases zS with rfl|h
  .simp
  .exact h
 have vu:0<ys.length->∃b o,ad=some ⟨b,o,none⟩/\(∀y∈ys,y.length=ei.size/\∀c∈y,c.leaf=true)/\∃us:List Value,us.length=ys.length*inf.size/\(∀(j:Nat) u,us[j]?=some u->w.cell? ((⟨b,o,none⟩:Addr).add j)=some u)/\(∀u∈us,u.oneCell'=true)/\HH F w os ei.size us ys:=λhp=>by
  rcases hsrc with rfl|⟨b,o,rfl,hc⟩
  .simp at hp
  .obtain⟨us,h1,h2,h3,h4⟩:=RX hys hc;refine⟨b,o,rfl,λy hy=>⟨hys y hy,zS y hy⟩,us,by rw[h1,uf],h2,h3,h1,λi y hy j c hc=>?_⟩;obtain⟨u,e1,_,e2⟩:=h4 i y hy j c hc;exact⟨u,e1,e2⟩
 cases d with
 |zc=>
  obtain⟨hb,hm,hk⟩:=h;simp only[Ab]at hd;obtain⟨ad0,rfl⟩:=hd;by_cases hm0:ys.length=0
  .have hys0:ys=[]:=qN hm0;subst hys0;have:=hr.YK (k:=k) (e:=ei.e) (size:=ei.size) (by omega);refine⟨_,_,_,_,_,hk,Mj hu hi ad0 ad 0 0 c (pM _),this.1,?_,this.2.1⟩;simp only[Ab];exact⟨⟨⟨0,ei.e,ei.size,[]⟩,none,0,GG⟩,by rw[hr.len];simp,by simp,⟨_,_,_,rfl⟩,λ_=>⟨by simp,.inl ⟨rfl,_,rfl⟩⟩⟩
  .obtain⟨b,o,rfl,vF,us,yP,vL,yv,hrep⟩:=vu (by omega);have xY:=sy w ys.length 0 ei.e;have hle:=rn w ys.length 0 ei.e (by simp[maxLen];omega);have uQ:(Builtin.append_ #[t,t] ty #[.slice ad0 0 0,.slice (some ⟨b,o,none⟩) ys.length c]).run P w=.ok (.slice (some ⟨w.heap.size,0,none⟩) ys.length (grownCap w ys.length 0 ei.e))
     (w.drew.alloc (.cells (([]:List Value).toArray++us.toArray++Builtin.zeroCells z.cells (grownCap w ys.length 0 ei.e-(0+ys.length))) ei.e)):=by
    cases ad0 with
    |none=>
     have:=sq (P:=P) w t ty ei.e inf z hu hi hz ⟨b,o,none⟩ ys.length c us yP vL (by omega) (by omega) (by rw[<- hby];omega);simpa using this
    |some a0=>
     have:=rX (P:=P) w t ty ei.e inf z hu hi hz a0 0 0 [] (by simp) (by simp) ⟨b,o,none⟩ ys.length c us yP vL (by omega) (by omega) (ri (by omega) (by rw[<- hby,qP];exact hb));simpa using this
   obtain⟨e1,e2⟩:=Pf (F:=F) (w:=w) (os:=os) (z:=z) (size:=ei.size) (n:=0) (m:=ys.length) (cap:=grownCap w ys.length 0 ei.e) (by rw[wb,uf]) (by rfl) rfl HH.nil hrep (by omega);have:=hr.PJ (k:=k) (.inr rfl) (cur:=_) (e:=ei.e) (size:=ei.size) (cap:=grownCap w ys.length 0 ei.e) (xs:=ys) (by omega) vF e1 xY hle (λi x hx j c hc=>e2 i x (by simpa using hx) j c hc);refine⟨_,_,_,_,_,hk,uQ,this.1,?_,this.2.1⟩;simp only[Ab];exact⟨⟨⟨0,ei.e,ei.size,ys⟩,some w.heap.size,grownCap w ys.length 0 ei.e,GG⟩,by rw[hr.len];exact J1 _ _,pM _,⟨_,_,_,rfl⟩,λ_=>⟨pM _,.inr ⟨_,rfl,by simp⟩⟩⟩
 |own id g n=>
  obtain⟨row,tw,hg,hnw,hel,E9,hb,hm,hk⟩:=BN h;obtain⟨o,ho,rfl⟩:=hr.row tw;simp only[Ab]at hd;obtain⟨o',uz,xY,_,hd⟩:=hd;rw[ho]at uz;cases uz;obtain⟨hnl,hd⟩:=hd hg;simp only[NG hnw]at hd;have uA:=hr.rows id o ho;have htk:(o.row.xs.take n).length=n:=by simp;omega
  have wJ:∀o':Own,(os.set id o')[id]?=some o':=λo'=>pP (pB.1 ho).1;have vZ:∀x∈o.row.xs.take n,x.length=ei.size/\∀c∈x,c.kept=true:=λx hx=>by
   have:=uA.lens x (qd hx);rw[E9]at this;exact this
  by_cases hm0:ys.length=0
  .have hys0:ys=[]:=qN hm0;subst hys0;have wQ:=hr.LR (k:=k) (o':={ o with row:={ o.row with gen:=g+1,xs:=o.row.xs.take n++[] } }) ho (w':=w) (HF.refl w _) (by simp[hg]) rfl (λe=>by simp[hg]at e) (λg hg=>.inl hg) (λuH=>by
    refine⟨uA.pos,λy hy=>?_,λhn=>?_,λb vG=>?_,uA.mo,uA.deep.keep rfl (λ_ h=>h) rfl (λ_ _=>rfl) (λi x j e s ys hx hc=>by
     simp only[qS,po]at hx;split at hx
     .exact⟨x,hx,hc⟩
     .cases hx)⟩
    .simp only[qS]at hy;exact uA.lens y (qd hy)
    .have:=uA.none hn;simp[this.1,this.2]
    .obtain⟨h1,cur,h2,h3,h4,h5,h6⟩:=uA.some b vG;refine⟨h1,cur,h2,h3,by simp;omega,h5,λi y hy j c hc=>?_⟩;simp only[qS,po]at hy;split at hy
     .obtain⟨u,e1,e2⟩:=h6 i y hy j c hc;exact⟨u,e1,uH _ _ e2⟩
     .cases hy)
   have hval:∃base cp,ud=.slice base n cp/\n<=cp/\((o.GC=none/\ud=.slice base n 0)∨∃b,o.GC=some b/\ud=.slice (some ⟨b,0,none⟩) n o.cap):=by
    rcases hd with ⟨zJ,a0,rfl⟩|⟨b,Ip,rfl⟩
    .have:=uA.none zJ;simp only[this.1,qj,sx]at hnl;exact⟨a0,0,rfl,by omega,.inl ⟨zJ,rfl⟩⟩
    .obtain⟨_,_,_,_,h4,_⟩:=uA.some b Ip;exact⟨_,o.cap,rfl,by omega,.inr ⟨b,Ip,rfl⟩⟩
   obtain⟨base,cp,rfl,hncp,hv⟩:=hval;refine⟨_,_,_,_,_,hk,Mj hu hi base ad n cp c hncp,wQ.1,?_,wQ.2.1⟩;simp only[Ab];refine⟨_,wJ _,by simp,⟨_,_,_,rfl⟩,λ_=>⟨by simp;omega,?_⟩⟩;rcases hv with ⟨zJ,hv⟩|⟨b,Ip,hv⟩
   .exact .inl ⟨zJ,base,by simpa using hv⟩
   .have hz:min n o.row.xs.length-n=0:=by omega
    exact .inr ⟨b,Ip,by simpa [hz] using hv⟩
  .obtain⟨b,off,rfl,vF,us,yP,vL,yv,hrep⟩:=vu (by omega);have wc:∀(cap:Nat) (vb:List Value),HH F w os ei.size vb (o.row.xs.take n)->(∀(b:Nat) (cur:Array Value) (k:Nat) (u:Value),o.GC=some b->w.heap[b]?=some (.cells cur o.row.elem (0,0))->k<n*ei.size->cur[k]?=some u->vb[k]?=some u)->n+ys.length<=cap->cap<=maxLen->
     Rel F (os.set id ⟨⟨g+1,o.row.elem,o.row.size,o.row.xs.take n++ys⟩,some w.heap.size,cap,o.more⟩) { s with st:=s.st.set id ⟨g+1,o.row.elem,o.row.size,o.row.xs.take n++ys⟩ } a (w.drew.alloc (.cells (vb.toArray++us.toArray++Builtin.zeroCells z.cells (cap-(n+ys.length))) ei.e))/\
     Ext F os w F (os.set id ⟨⟨g+1,o.row.elem,o.row.size,o.row.xs.take n++ys⟩,some w.heap.size,cap,o.more⟩) (w.drew.alloc (.cells (vb.toArray++us.toArray++Builtin.zeroCells z.cells (cap-(n+ys.length))) ei.e)) k:=λcap vb hold holdv xN vo=>by
    obtain⟨e1,e2⟩:=Pf (F:=F) (w:=w) (os:=os) (z:=z) (size:=ei.size) (n:=n) (m:=ys.length) (cap:=cap) (by rw[wb,uf]) htk rfl hold hrep xN;have:=hr.LR (k:=k) (o':=⟨⟨g+1,o.row.elem,o.row.size,o.row.xs.take n++ys⟩,some w.heap.size,cap,o.more⟩) ho (w':=w.drew.alloc (.cells (vb.toArray++us.toArray++Builtin.zeroCells z.cells (cap-(n+ys.length))) ei.e)) (Ku _ _ _) (by simp[hg]) rfl (λe=>by simp[hg]at e) (λg hg=>by
      rcases hg with hg|hg
      .simp only[pD]at hg;exact .inr (by omega)
      .exact .inl (.inr hg)) (λuH=>by
     have hdp:LQ (w.drew.alloc (.cells (vb.toArray++us.toArray++Builtin.zeroCells z.cells (cap-(n+ys.length))) ei.e)) ⟨⟨g+1,o.row.elem,o.row.size,o.row.xs.take n++ys⟩,some w.heap.size,cap,o.more⟩:=by
      obtain⟨D,d1,d2,d3⟩:=uA.deep;refine⟨D,d1,d2,λb' vG wa el l vH i y j e s' zs hy hc=>?_⟩;simp only[pD]at vG hy⊢;subst vG;have hnew:=sm w.drew (.cells (vb.toArray++us.toArray++Builtin.zeroCells z.cells (cap-(n+ys.length))) ei.e);have hcur'':some (Obj.cells (vb.toArray++us.toArray++Builtin.zeroCells z.cells (cap-(n+ys.length))) ei.e)=some (.cells wa el l):=hnew.symm.trans vH;cases hcur'';have vR:i<n:=by
       rcases rH i n with h|h
       .exact h
       .rw[pO (by omega)]at hy;have:=vF y (oz hy);have:=this.2 _ (oz hc);simp[AV.leaf]at this
      rw[pN (by omega),po,pJ vR]at hy;have Ip:∃b,o.GC=some b:=by
       cases hbk:o.GC with
       |none=>have:=(uA.none hbk).1;rw[this]at hy;simp at hy
       |some b=>exact⟨b,rfl⟩
      obtain⟨b,Ip⟩:=Ip;obtain⟨_,cur,uP,_⟩:=uA.some b Ip;obtain⟨u,q1,q2⟩:=d3 b Ip cur _ _ uP i y j e s' zs hy hc;have yN:j<o.row.size:=by rw[<- (uA.lens y (oz hy)).1];exact (pB.1 hc).1
      have xz:i*o.row.size+j<n*ei.size:=by
       have:(i+1)*o.row.size<=n*o.row.size:=qC _ vR;rw[px]at this;rw[<- E9];omega
      have q3:=holdv b cur _ u Ip uP xz q1;refine⟨u,?_,Nl (w:=w) (λ_ h=>h) (λc wI=>sA w.drew _ (uA.mo _ (d1 _ _ _ wI)).2.1) _ u q2⟩;have uV:=(pB.1 q3).1;rw[qz (by simp;omega),qz (by simpa using uV)];simpa using q3
     refine⟨uA.pos,λy hy=>?_,by simp,λb vG=>?_,λg hg=>⟨(uA.mo g hg).1,by have:=(uA.mo g hg).2.1;simp;omega,λe=>by simp only[pD]at e;have:=(uA.mo g hg).2.1;omega⟩,hdp⟩
     .rcases pY.1 hy with h|h
      .simp only[E9];exact vZ y h
      .simp only[E9];exact⟨(vF y h).1,λc hc=>Di ((vF y h).2 c hc)⟩
     .simp only[pD]at vG;subst vG;refine⟨λhF=>absurd (hr.Fp _ hF) (Nat.lt_irrefl _),_,by rw[hel];exact sm w.drew _,by simp only[E9];exact e1,by simp only[pW,htk];exact xN,vo,λi y hy j c hc=>?_⟩;obtain⟨u,f1,f2⟩:=e2 i y hy j c hc;exact⟨u,by simpa only[E9] using f1,uH _ _ f2⟩)
    exact⟨this.1,this.2.1⟩
   have hfin:∀cap,Ab F (w.drew.alloc (.cells #[] 0)) (os.set id ⟨⟨g+1,o.row.elem,o.row.size,o.row.xs.take n++ys⟩,some w.heap.size,cap,o.more⟩) (.own id (g+1) (n+ys.length)) (.slice (some ⟨w.heap.size,0,none⟩) (n+ys.length) cap):=λcap=>by
    simp only[Ab];exact⟨_,wJ _,by simp,⟨_,_,_,rfl⟩,λ_=>⟨by simp only[pW,htk];omega,.inr ⟨_,rfl,(NG (o:=⟨⟨g+1,o.row.elem,o.row.size,o.row.xs.take n++ys⟩,some w.heap.size,_,o.more⟩) (by rw[pW,htk])).symm⟩⟩⟩
   have xY:=sy w (n+ys.length);have zA:=rn w (n+ys.length);rcases hd with ⟨zJ,a0,rfl⟩|⟨b0,Ip,rfl⟩
   .have zT:=uA.none zJ;simp only[zT.1,qj,sx]at hnl;subst hnl;have uQ:(Builtin.append_ #[t,t] ty #[.slice a0 0 0,.slice (some ⟨b,off,none⟩) ys.length c]).run P w=.ok (.slice (some ⟨w.heap.size,0,none⟩) (0+ys.length) (grownCap w (0+ys.length) 0 ei.e))
      (w.drew.alloc (.cells (([]:List Value).toArray++us.toArray++Builtin.zeroCells z.cells (grownCap w (0+ys.length) 0 ei.e-(0+ys.length))) ei.e)):=by
     cases a0 with
     |none=>
      have:=sq (P:=P) w t ty ei.e inf z hu hi hz ⟨b,off,none⟩ ys.length c us yP vL (by omega) (by omega) (by rw[<- hby];rw[qP]at hb;omega);simpa using this
     |some a0=>
      have:=rX (P:=P) w t ty ei.e inf z hu hi hz a0 0 0 [] (by simp) (by simp) ⟨b,off,none⟩ ys.length c us yP vL (by omega) (by omega) (ri (by omega) (by rw[<- hby];exact hb));simpa using this
    have hgg:=wc (grownCap w (0+ys.length) 0 ei.e) [] (by simp[HH]) (λb cur k u hb=>by rw[zJ]at hb;cases hb) (xY 0 ei.e) (zA 0 ei.e (by simp[maxLen];omega));exact⟨_,_,_,_,_,hk,uQ,hgg.1,by simpa [Ab] using hfin _,hgg.2⟩
   .obtain⟨zQ,cur,uP,vp,hlc,hmaxc,uL⟩:=uA.some b0 Ip;by_cases vv:n+ys.length<=o.cap
    .have vg:n*inf.size+us.length<=cur.size:=by rw[yP,vp,E9,uf,<- px];exact qC _ vv
     have uQ:=run_append_room (P:=P) w t ty ei.e inf hu hi b0 n o.cap cur (by rw[<- hel];exact uP) ⟨b,off,none⟩ ys.length c us yP vL yv vv vg;have hset':=hr.LR (k:=k) (o':=⟨⟨g+1,o.row.elem,o.row.size,o.row.xs.take n++ys⟩,some b0,o.cap,o.more⟩) ho (w':=w.setRow b0 (cur.toList.take (n*inf.size)++us++cur.toList.drop (n*inf.size+us.length)).toArray) (by rw[Ip];exact HF.setRow _ _ _) (by simp[hg]) rfl (λe=>by simp[hg]at e) (λg hg=>by
       rcases hg with hg|hg
       .simp only[pD]at hg;exact .inl (.inl (by rw[Ip,hg]))
       .exact .inl (.inr hg)) (λuH=>by
      have hdp:LQ (w.setRow b0 (cur.toList.take (n*inf.size)++us++cur.toList.drop (n*inf.size+us.length)).toArray) ⟨⟨g+1,o.row.elem,o.row.size,o.row.xs.take n++ys⟩,some b0,o.cap,o.more⟩:=by
       obtain⟨D,d1,d2,d3⟩:=uA.deep;refine⟨D,d1,d2,λb' vG wa el l vH i y j e s' zs hy hc=>?_⟩;simp only[pD]at vG hy⊢;subst vG;rw[sb w b0 cur _ _ _ uP]at vH;cases vH;have vR:i<n:=by
        rcases rH i n with h|h
        .exact h
        .rw[pO (by omega)]at hy;have:=vF y (oz hy);have:=this.2 _ (oz hc);simp[AV.leaf]at this
       rw[pN (by omega),po,pJ vR]at hy;obtain⟨u,q1,q2⟩:=d3 b0 Ip cur _ _ uP i y j e s' zs hy hc;have yN:j<o.row.size:=by rw[<- (uA.lens y (oz hy)).1];exact (pB.1 hc).1
       have xz:i*o.row.size+j<n*inf.size:=by
        have:(i+1)*o.row.size<=n*o.row.size:=qC _ vR;rw[px]at this;rw[<- uf,<- E9];omega
       refine⟨u,?_,Nl (λ_ h=>h) (λc wI=>setRow_other w b0 c _ λe=>(uA.mo _ (d1 _ _ _ wI)).2.2 (by rw[Ip,e])) _ u q2⟩;rw[LA vg,pJ xz];exact q1
      refine⟨uA.pos,λy hy=>?_,by simp,λb vG=>?_,λg hg=>⟨(uA.mo g hg).1,by simpa using (uA.mo g hg).2.1,by rw[<- Ip];exact (uA.mo g hg).2.2⟩,hdp⟩
      .rcases pY.1 hy with h|h
       .simp only[E9];exact vZ y h
       .simp only[E9];exact⟨(vF y h).1,λc hc=>Di ((vF y h).2 c hc)⟩
      .simp only[pD]at vG;subst vG;refine⟨zQ,_,sb w b0 cur _ _ _ uP,?_,by simp only[pW,htk];exact vv,hmaxc,λi y hy j c hc=>?_⟩
       .simp only[rY,pW,rQ,re,rP]at vg⊢;rw[<- vp];omega
       .simp only at hy⊢;rw[LA vg];by_cases vR:i<n
        .rw[pN (by omega),po,pJ vR]at hy;obtain⟨u,f1,f2⟩:=uL i y hy j c hc;have yN:j<o.row.size:=by rw[<- (uA.lens y (oz hy)).1];exact (pB.1 hc).1
         have:(i+1)*o.row.size<=n*o.row.size:=qC _ vR;rw[px]at this;refine⟨u,?_,uH _ _ f2⟩;rw[pJ (by rw[<- uf,<- E9];omega)];exact f1
        .rw[pO (by omega),htk]at hy;obtain⟨u,f1,f2⟩:=hrep.2 _ y hy j c hc;refine⟨u,?_,uH _ _ f2⟩;have uV:=(pB.1 f1).1;have h3:n*o.row.size<=i*o.row.size:=qC _ (by omega);rw[Nat.sub_mul]at f1 uV;rw[<- E9]at f1 uV;rw[pK (by rw[<- uf,<- E9];omega),pJ (by rw[<- uf,<- E9];omega),<- f1];congr 1;rw[<- uf,<- E9];omega)
     refine⟨_,_,_,_,_,hk,uQ,hset'.1,?_,hset'.2.1⟩;simp only[Ab];exact⟨_,wJ _,by simp,⟨_,_,_,rfl⟩,λ_=>⟨by simp only[pW,htk];omega,.inr ⟨_,rfl,by simp[hnw]⟩⟩⟩
    ·
     have hold:∀(i:Nat) y,(o.row.xs.take n)[i]?=some y->NQ F w os b0 (0+i*ei.size) y:=λi y hy=>by
      rw[po]at hy;split at hy
      .have:=hr.O0 ho Ip hy;rw[E9]at this;simpa using this
      .cases hy
     obtain⟨vb,h1,h2,_,h4⟩:=RX (λx hx=>(vZ x hx).1) hold;have uQ:=rX (P:=P) w t ty ei.e inf z hu hi hz ⟨b0,0,none⟩ n o.cap vb (by rw[h1,htk,uf]) h2 ⟨b,off,none⟩ ys.length c us yP vL (by omega) (by omega) (ri (by omega) (by rw[<- hby];exact hb));have hgg:=wc (grownCap w (n+ys.length) o.cap ei.e) vb ⟨h1,λi y hy j c hc=>by obtain⟨u,f1,_,f2⟩:=h4 i y hy j c hc;exact⟨u,f1,f2⟩⟩ (λb wa k u vG vH hk q=>by
      rw[Ip]at vG;cases vG;rw[uP]at vH;cases vH;have xz:k<vb.length:=by rw[h1,htk];exact hk
      have:=h2 k _ (pG xz);rw[Cf,rl w b0 _ cur _ _ uP,qP,q]at this;rw[pG xz,<- this]) (xY o.cap ei.e) (zA o.cap ei.e (by simp[maxLen];omega))
     exact⟨_,_,_,_,_,hk,uQ,hgg.1,by simpa [Ab] using hfin _,hgg.2⟩
 |_=>exact h.elim
end Go.Abs
