import Derived.Test.YtihdgoiebmfapaaGreatAbsE
set_option linter.all false
namespace Go.Abs
open Go
variable {P : Program} {F : Nat -> Prop} {os : List Own} {s : St} {a : Act} {w : World} {k : Nat}
def HE (F:Nat->Prop)(w:World)(os:List Own)(size:Nat)(us:List Value)(xs:List (List AV)):Prop:=
 us.length=xs.length*size/\∀(i:Nat) x,xs[i]?=some x->∀(j:Nat) c,x[j]?=some c->∃u,us[i*size+j]?=some u/\Ab F w os c u
theorem HE.nil {size:Nat}:HE F w os size [] []:=⟨by simp,by simp⟩
theorem HE.append {size:Nat}{us vs:List Value}{xs ys:List (List AV)}(h:HE F w os size us xs)(g:HE F w os size vs ys):HE F w os size (us++vs) (xs++ys):=by
 refine⟨by rw[pU,pU,h.1,g.1,pt],λi x hi j c hc=>?_⟩;by_cases uU:i<xs.length
 .rw[pM uU]at hi;obtain⟨u,h1,h2⟩:=h.2 i x hi j c hc;exact⟨u,by rw[pM (pA.1 h1).1];exact h1,h2⟩
 .rw[pN (by omega)]at hi;obtain⟨u,h1,h2⟩:=g.2 _ x hi j c hc;refine⟨u,?_,h2⟩;have:xs.length*size<=i*size:=qB _ (by omega);rw[pN (by rw[h.1];omega),<- h1,h.1];congr 1;rw[Nat.sub_mul];omega
theorem Rel.YT (hr:Rel F os s a w){e:TypeId}{size:Nat}(uz:0<size):
  let o:Own:=⟨⟨0,e,size,[]⟩,none,0,GF⟩
  Rel F (os++[o]) { s with st:=s.st++[o.row] } a w/\Ext F os w F (os++[o]) w k/\(∀x v,Ab F w os x v->Ab F w (os++[o]) x v):=by
 intro o;have uD:∀(i:Nat) (oi:Own),(os++[o])[i]?=some oi->os[i]?=some oi∨(i=os.length/\oi=o):=λi oi hi=>by
  rcases qk i os.length with h|h|h
  .rw[pM h]at hi;exact .inl hi
  .subst h;simp at hi;exact .inr ⟨rfl,hi.symm⟩
  .rw[pN (by omega),qA (by simp;omega)]at hi;cases hi
 have:=hr.Zt (k:=k) (HA.refl w none) (by simp) (os':=os++[o]) (Fp.append os [o]) (λi oi hi=>by
   rcases uD i oi hi with h|⟨_,rfl⟩
   .exact .inl ⟨h,by simp⟩
   .exact .inr ⟨uz,by simp[o],by simp[o],by simp[o],λg hg=>hg.elim,EJ (by simp[o])⟩)
  (λi j oi oj g hi hj zN zO=>by
   rcases uD i oi hi with h|⟨h,rfl⟩<;>rcases uD j oj hj with h'|⟨h',rfl⟩
   .exact hr.inj i j oi oj g h h' zN zO
   .simp[o,Own.owns,GF]at zO
   .simp[o,Own.owns,GF]at zN
   .omega)
  (λo' uw g hg=>by
   rcases pX.1 uw with h|h
   .exact .inr ⟨o',h,hg⟩
   .simp only[pS]at h;subst h;simp[o,Own.owns,GF]at hg)
  (by simp)
 refine⟨?_,this.2.1,this.2.2⟩;have h1:=this.1;rw[qu,hr.st]at h1;simpa using h1
theorem Mh {t ty e:TypeId}{i:TypeInfo}(ht:P.underlying t=some (.slice e))(hi:P.info? e=some i)(base ad:Option Addr)(n cap c:Nat)(hn:n<=cap):
  (Builtin.append_ #[t,t] ty #[.slice base n cap,.slice ad 0 c]).run P w=.ok (.slice base n cap) w:=by
 have hf:(Builtin.firstCells i.size 0 (.slice ad 0 c)).run P w=.ok #[] w:=by
  cases ad<;>simp[Builtin.firstCells,loadCells,loadCellsFrom]
 cases base<;>simp[Builtin.append_,qQ ht,sizeOf,typeInfo,hi,Builtin.lenOf,hn,hf,storeCells]
theorem J1 {α:Type}(l:List α)(x:α):(l++[x])[l.length]?=some x:=by simp
theorem PF {size n m cap:Nat}{z:Value}(wb:z.cells.size=size){us vs:List Value}{xs ys:List (List AV)}(hxn:xs.length=n)(hyn:ys.length=m)
  (h:HE F w os size us xs) (g:HE F w os size vs ys) (xM:n+m<=cap) :
  (us.toArray++vs.toArray++Builtin.zeroCells z.cells (cap-(n+m))).size=cap*size/\
  ∀(i:Nat) x,(xs++ys)[i]?=some x->∀(j:Nat) c,x[j]?=some c->∃u,(us.toArray++vs.toArray++Builtin.zeroCells z.cells (cap-(n+m)))[i*size+j]?=some u/\Ab F w os c u:=by
 have yP:=HE.append h g;constructor
 .simp only[su,rX,sq,wb,h.1,g.1,hxn,hyn,<- pt];congr 1;omega
 .intro i x hi j c hc;obtain⟨u,h1,h2⟩:=yP.2 i x hi j c hc;refine⟨u,?_,h2⟩;have uU:=(pA.1 h1).1;rw[qy (by simpa using uU)];simpa using h1
theorem br {t ty:TypeId}{d x:AV}{ud ux:Value}{K:AV->List Row->Prop}(hr:Rel F os s a w)(h:X8 P s.st t d x K)(hd:Ab F w os d ud)(hx:Ab F w os x ux):
  Ig P k F os s a w (Builtin.append_ #[t,t] ty #[ud,ux]) K:=by
 obtain⟨ei,he,h⟩:=BN h;obtain⟨inf,z,hu,hi,hz,wb,uz,ue,hby,_,_⟩:=HP he;obtain⟨ys,h,hys,zR,⟨ad,c,rfl,hsrc⟩⟩:=YF hr h hx;have zR:∀y∈ys,∀c∈y,c.leaf=true:=by
  rcases zR with rfl|h
  .simp
  .exact h
 have vv:0<ys.length->∃b o,ad=some ⟨b,o,none⟩/\(∀y∈ys,y.length=ei.size/\∀c∈y,c.leaf=true)/\∃us:List Value,us.length=ys.length*inf.size/\(∀(j:Nat) u,us[j]?=some u->w.cell? ((⟨b,o,none⟩:Addr).add j)=some u)/\(∀u∈us,u.oneCell'=true)/\HE F w os ei.size us ys:=λhp=>by
  rcases hsrc with rfl|⟨b,o,rfl,hc⟩
  .simp at hp
  .obtain⟨us,h1,h2,h3,h4⟩:=RT hys hc;refine⟨b,o,rfl,λy hy=>⟨hys y hy,zR y hy⟩,us,by rw[h1,ue],h2,h3,h1,λi y hy j c hc=>?_⟩;obtain⟨u,e1,_,e2⟩:=h4 i y hy j c hc;exact⟨u,e1,e2⟩
 cases d with
 |zc=>
  obtain⟨hb,hm,hk⟩:=h;simp only[Ab]at hd;obtain⟨ad0,rfl⟩:=hd;by_cases hm0:ys.length=0
  .have hys0:ys=[]:=qM hm0;subst hys0;have:=hr.YT (k:=k) (e:=ei.e) (size:=ei.size) (by omega);refine⟨_,_,_,_,_,hk,Mh hu hi ad0 ad 0 0 c (pL _),this.1,?_,this.2.1⟩;simp only[Ab];exact⟨⟨⟨0,ei.e,ei.size,[]⟩,none,0,GF⟩,by rw[hr.len];simp,by simp,⟨_,_,_,rfl⟩,λ_=>⟨by simp,.inl ⟨rfl,_,rfl⟩⟩⟩
  .obtain⟨b,o,rfl,vE,us,yQ,vK,yv,hrep⟩:=vv (by omega);have xX:=sx w ys.length 0 ei.e;have hle:=rm w ys.length 0 ei.e (by simp[maxLen];omega);have uP:(Builtin.append_ #[t,t] ty #[.slice ad0 0 0,.slice (some ⟨b,o,none⟩) ys.length c]).run P w=.ok (.slice (some ⟨w.heap.size,0,none⟩) ys.length (grownCap w ys.length 0 ei.e))
     (w.drew.alloc (.cells (([]:List Value).toArray++us.toArray++Builtin.zeroCells z.cells (grownCap w ys.length 0 ei.e-(0+ys.length))) ei.e)):=by
    cases ad0 with
    |none=>
     have:=sn (P:=P) w t ty ei.e inf z hu hi hz ⟨b,o,none⟩ ys.length c us yQ vK (by omega) (by omega) (by rw[<- hby];omega);simpa using this
    |some a0=>
     have:=rW (P:=P) w t ty ei.e inf z hu hi hz a0 0 0 [] (by simp) (by simp) ⟨b,o,none⟩ ys.length c us yQ vK (by omega) (by omega) (rh (by omega) (by rw[<- hby,qO];exact hb));simpa using this
   obtain⟨e1,e2⟩:=PF (F:=F) (w:=w) (os:=os) (z:=z) (size:=ei.size) (n:=0) (m:=ys.length) (cap:=grownCap w ys.length 0 ei.e) (by rw[wb,ue]) (by rfl) rfl HE.nil hrep (by omega);have:=hr.PN (k:=k) (.inr rfl) (cur:=_) (e:=ei.e) (size:=ei.size) (cap:=grownCap w ys.length 0 ei.e) (xs:=ys) (by omega) vE e1 xX hle (λi x hx j c hc=>e2 i x (by simpa using hx) j c hc);refine⟨_,_,_,_,_,hk,uP,this.1,?_,this.2.1⟩;simp only[Ab];exact⟨⟨⟨0,ei.e,ei.size,ys⟩,some w.heap.size,grownCap w ys.length 0 ei.e,GF⟩,by rw[hr.len];exact J1 _ _,pL _,⟨_,_,_,rfl⟩,λ_=>⟨pL _,.inr ⟨_,rfl,by simp⟩⟩⟩
 |own id g n=>
  obtain⟨row,tv,hg,hnw,hel,E8,hb,hm,hk⟩:=BN h;obtain⟨o,ho,rfl⟩:=hr.row tv;simp only[Ab]at hd;obtain⟨o',uw,xX,_,hd⟩:=hd;rw[ho]at uw;cases uw;obtain⟨hnl,hd⟩:=hd hg;simp only[NF hnw]at hd;have tz:=hr.rows id o ho;have htk:(o.row.xs.take n).length=n:=by simp;omega
  have wI:∀o':Own,(os.set id o')[id]?=some o':=λo'=>pO (pA.1 ho).1;have vY:∀x∈o.row.xs.take n,x.length=ei.size/\∀c∈x,c.kept=true:=λx hx=>by
   have:=tz.lens x (qc hx);rw[E8]at this;exact this
  by_cases hm0:ys.length=0
  .have hys0:ys=[]:=qM hm0;subst hys0;have wP:=hr.LM (k:=k) (o':={ o with row:={ o.row with gen:=g+1,xs:=o.row.xs.take n++[] } }) ho (w':=w) (HA.refl w _) (by simp[hg]) rfl (λe=>by simp[hg]at e) (λg hg=>.inl hg) (λuG=>by
    refine⟨tz.pos,λy hy=>?_,λhn=>?_,λb vF=>?_,tz.mo,tz.deep.keep rfl (λ_ h=>h) rfl (λ_ _=>rfl) (λi x j e s ys hx hc=>by
     simp only[qR,pn]at hx;split at hx
     .exact⟨x,hx,hc⟩
     .cases hx)⟩
    .simp only[qR]at hy;exact tz.lens y (qc hy)
    .have:=tz.none hn;simp[this.1,this.2]
    .obtain⟨h1,cur,h2,h3,h4,h5,h6⟩:=tz.some b vF;refine⟨h1,cur,h2,h3,by simp;omega,h5,λi y hy j c hc=>?_⟩;simp only[qR,pn]at hy;split at hy
     .obtain⟨u,e1,e2⟩:=h6 i y hy j c hc;exact⟨u,e1,uG _ _ e2⟩
     .cases hy)
   have hval:∃base cp,ud=.slice base n cp/\n<=cp/\((o.GA=none/\ud=.slice base n 0)∨∃b,o.GA=some b/\ud=.slice (some ⟨b,0,none⟩) n o.cap):=by
    rcases hd with ⟨zI,a0,rfl⟩|⟨b,Ip,rfl⟩
    .have:=tz.none zI;simp only[this.1,qi,sw]at hnl;exact⟨a0,0,rfl,by omega,.inl ⟨zI,rfl⟩⟩
    .obtain⟨_,_,_,_,h4,_⟩:=tz.some b Ip;exact⟨_,o.cap,rfl,by omega,.inr ⟨b,Ip,rfl⟩⟩
   obtain⟨base,cp,rfl,hncp,hv⟩:=hval;refine⟨_,_,_,_,_,hk,Mh hu hi base ad n cp c hncp,wP.1,?_,wP.2.1⟩;simp only[Ab];refine⟨_,wI _,by simp,⟨_,_,_,rfl⟩,λ_=>⟨by simp;omega,?_⟩⟩;rcases hv with ⟨zI,hv⟩|⟨b,Ip,hv⟩
   .exact .inl ⟨zI,base,by simpa using hv⟩
   .have hz:min n o.row.xs.length-n=0:=by omega
    exact .inr ⟨b,Ip,by simpa [hz] using hv⟩
  .obtain⟨b,off,rfl,vE,us,yQ,vK,yv,hrep⟩:=vv (by omega);have wc:∀(cap:Nat) (va:List Value),HE F w os ei.size va (o.row.xs.take n)->(∀(b:Nat) (cur:Array Value) (k:Nat) (u:Value),o.GA=some b->w.heap[b]?=some (.cells cur o.row.elem (0,0))->k<n*ei.size->cur[k]?=some u->va[k]?=some u)->n+ys.length<=cap->cap<=maxLen->
     Rel F (os.set id ⟨⟨g+1,o.row.elem,o.row.size,o.row.xs.take n++ys⟩,some w.heap.size,cap,o.more⟩) { s with st:=s.st.set id ⟨g+1,o.row.elem,o.row.size,o.row.xs.take n++ys⟩ } a (w.drew.alloc (.cells (va.toArray++us.toArray++Builtin.zeroCells z.cells (cap-(n+ys.length))) ei.e))/\
     Ext F os w F (os.set id ⟨⟨g+1,o.row.elem,o.row.size,o.row.xs.take n++ys⟩,some w.heap.size,cap,o.more⟩) (w.drew.alloc (.cells (va.toArray++us.toArray++Builtin.zeroCells z.cells (cap-(n+ys.length))) ei.e)) k:=λcap va hold holdv xM vp=>by
    obtain⟨e1,e2⟩:=PF (F:=F) (w:=w) (os:=os) (z:=z) (size:=ei.size) (n:=n) (m:=ys.length) (cap:=cap) (by rw[wb,ue]) htk rfl hold hrep xM;have:=hr.LM (k:=k) (o':=⟨⟨g+1,o.row.elem,o.row.size,o.row.xs.take n++ys⟩,some w.heap.size,cap,o.more⟩) ho (w':=w.drew.alloc (.cells (va.toArray++us.toArray++Builtin.zeroCells z.cells (cap-(n+ys.length))) ei.e)) (Kw _ _ _) (by simp[hg]) rfl (λe=>by simp[hg]at e) (λg hg=>by
      rcases hg with hg|hg
      .simp only[pC]at hg;exact .inr (by omega)
      .exact .inl (.inr hg)) (λuG=>by
     have hdp:LX (w.drew.alloc (.cells (va.toArray++us.toArray++Builtin.zeroCells z.cells (cap-(n+ys.length))) ei.e)) ⟨⟨g+1,o.row.elem,o.row.size,o.row.xs.take n++ys⟩,some w.heap.size,cap,o.more⟩:=by
      obtain⟨D,d1,d2,d3⟩:=tz.deep;refine⟨D,d1,d2,λb' vF wa el l vG i y j e s' zs hy hc=>?_⟩;simp only[pC]at vF hy⊢;subst vF;have hnew:=sk w.drew (.cells (va.toArray++us.toArray++Builtin.zeroCells z.cells (cap-(n+ys.length))) ei.e);have hcur'':some (Obj.cells (va.toArray++us.toArray++Builtin.zeroCells z.cells (cap-(n+ys.length))) ei.e)=some (.cells wa el l):=hnew.symm.trans vG;cases hcur'';have vQ:i<n:=by
       rcases rG i n with h|h
       .exact h
       .rw[pN (by omega)]at hy;have:=vE y (ov hy);have:=this.2 _ (ov hc);simp[AV.leaf]at this
      rw[pM (by omega),pn,pI vQ]at hy;have Ip:∃b,o.GA=some b:=by
       cases hbk:o.GA with
       |none=>have:=(tz.none hbk).1;rw[this]at hy;simp at hy
       |some b=>exact⟨b,rfl⟩
      obtain⟨b,Ip⟩:=Ip;obtain⟨_,cur,uO,_⟩:=tz.some b Ip;obtain⟨u,q1,q2⟩:=d3 b Ip cur _ _ uO i y j e s' zs hy hc;have yO:j<o.row.size:=by rw[<- (tz.lens y (ov hy)).1];exact (pA.1 hc).1
      have xz:i*o.row.size+j<n*ei.size:=by
       have:(i+1)*o.row.size<=n*o.row.size:=qB _ vQ;rw[pt]at this;rw[<- E8];omega
      have q3:=holdv b cur _ u Ip uO xz q1;refine⟨u,?_,NR (w:=w) (λ_ h=>h) (λc wH=>rz w.drew _ (tz.mo _ (d1 _ _ _ wH)).2.1) _ u q2⟩;have uU:=(pA.1 q3).1;rw[qy (by simp;omega),qy (by simpa using uU)];simpa using q3
     refine⟨tz.pos,λy hy=>?_,by simp,λb vF=>?_,λg hg=>⟨(tz.mo g hg).1,by have:=(tz.mo g hg).2.1;simp;omega,λe=>by simp only[pC]at e;have:=(tz.mo g hg).2.1;omega⟩,hdp⟩
     .rcases pX.1 hy with h|h
      .simp only[E8];exact vY y h
      .simp only[E8];exact⟨(vE y h).1,λc hc=>Dg ((vE y h).2 c hc)⟩
     .simp only[pC]at vF;subst vF;refine⟨λhF=>absurd (hr.Fu _ hF) (Nat.lt_irrefl _),_,by rw[hel];exact sk w.drew _,by simp only[E8];exact e1,by simp only[pU,htk];exact xM,vp,λi y hy j c hc=>?_⟩;obtain⟨u,f1,f2⟩:=e2 i y hy j c hc;exact⟨u,by simpa only[E8] using f1,uG _ _ f2⟩)
    exact⟨this.1,this.2.1⟩
   have hfin:∀cap,Ab F (w.drew.alloc (.cells #[] 0)) (os.set id ⟨⟨g+1,o.row.elem,o.row.size,o.row.xs.take n++ys⟩,some w.heap.size,cap,o.more⟩) (.own id (g+1) (n+ys.length)) (.slice (some ⟨w.heap.size,0,none⟩) (n+ys.length) cap):=λcap=>by
    simp only[Ab];exact⟨_,wI _,by simp,⟨_,_,_,rfl⟩,λ_=>⟨by simp only[pU,htk];omega,.inr ⟨_,rfl,(NF (o:=⟨⟨g+1,o.row.elem,o.row.size,o.row.xs.take n++ys⟩,some w.heap.size,_,o.more⟩) (by rw[pU,htk])).symm⟩⟩⟩
   have xX:=sx w (n+ys.length);have zA:=rm w (n+ys.length);rcases hd with ⟨zI,a0,rfl⟩|⟨b0,Ip,rfl⟩
   .have zS:=tz.none zI;simp only[zS.1,qi,sw]at hnl;subst hnl;have uP:(Builtin.append_ #[t,t] ty #[.slice a0 0 0,.slice (some ⟨b,off,none⟩) ys.length c]).run P w=.ok (.slice (some ⟨w.heap.size,0,none⟩) (0+ys.length) (grownCap w (0+ys.length) 0 ei.e))
      (w.drew.alloc (.cells (([]:List Value).toArray++us.toArray++Builtin.zeroCells z.cells (grownCap w (0+ys.length) 0 ei.e-(0+ys.length))) ei.e)):=by
     cases a0 with
     |none=>
      have:=sn (P:=P) w t ty ei.e inf z hu hi hz ⟨b,off,none⟩ ys.length c us yQ vK (by omega) (by omega) (by rw[<- hby];rw[qO]at hb;omega);simpa using this
     |some a0=>
      have:=rW (P:=P) w t ty ei.e inf z hu hi hz a0 0 0 [] (by simp) (by simp) ⟨b,off,none⟩ ys.length c us yQ vK (by omega) (by omega) (rh (by omega) (by rw[<- hby];exact hb));simpa using this
    have hgg:=wc (grownCap w (0+ys.length) 0 ei.e) [] (by simp[HE]) (λb cur k u hb=>by rw[zI]at hb;cases hb) (xX 0 ei.e) (zA 0 ei.e (by simp[maxLen];omega));exact⟨_,_,_,_,_,hk,uP,hgg.1,by simpa [Ab] using hfin _,hgg.2⟩
   .obtain⟨zP,cur,uO,vq,hlc,hmaxc,uK⟩:=tz.some b0 Ip;by_cases vw:n+ys.length<=o.cap
    .have vh:n*inf.size+us.length<=cur.size:=by rw[yQ,vq,E8,ue,<- pt];exact qB _ vw
     have uP:=run_append_room (P:=P) w t ty ei.e inf hu hi b0 n o.cap cur (by rw[<- hel];exact uO) ⟨b,off,none⟩ ys.length c us yQ vK yv vw vh;have hset':=hr.LM (k:=k) (o':=⟨⟨g+1,o.row.elem,o.row.size,o.row.xs.take n++ys⟩,some b0,o.cap,o.more⟩) ho (w':=w.setRow b0 (cur.toList.take (n*inf.size)++us++cur.toList.drop (n*inf.size+us.length)).toArray) (by rw[Ip];exact HA.setRow _ _ _) (by simp[hg]) rfl (λe=>by simp[hg]at e) (λg hg=>by
       rcases hg with hg|hg
       .simp only[pC]at hg;exact .inl (.inl (by rw[Ip,hg]))
       .exact .inl (.inr hg)) (λuG=>by
      have hdp:LX (w.setRow b0 (cur.toList.take (n*inf.size)++us++cur.toList.drop (n*inf.size+us.length)).toArray) ⟨⟨g+1,o.row.elem,o.row.size,o.row.xs.take n++ys⟩,some b0,o.cap,o.more⟩:=by
       obtain⟨D,d1,d2,d3⟩:=tz.deep;refine⟨D,d1,d2,λb' vF wa el l vG i y j e s' zs hy hc=>?_⟩;simp only[pC]at vF hy⊢;subst vF;rw[sa w b0 cur _ _ _ uO]at vG;cases vG;have vQ:i<n:=by
        rcases rG i n with h|h
        .exact h
        .rw[pN (by omega)]at hy;have:=vE y (ov hy);have:=this.2 _ (ov hc);simp[AV.leaf]at this
       rw[pM (by omega),pn,pI vQ]at hy;obtain⟨u,q1,q2⟩:=d3 b0 Ip cur _ _ uO i y j e s' zs hy hc;have yO:j<o.row.size:=by rw[<- (tz.lens y (ov hy)).1];exact (pA.1 hc).1
       have xz:i*o.row.size+j<n*inf.size:=by
        have:(i+1)*o.row.size<=n*o.row.size:=qB _ vQ;rw[pt]at this;rw[<- ue,<- E8];omega
       refine⟨u,?_,NR (λ_ h=>h) (λc wH=>setRow_other w b0 c _ λe=>(tz.mo _ (d1 _ _ _ wH)).2.2 (by rw[Ip,e])) _ u q2⟩;rw[LA vh,pI xz];exact q1
      refine⟨tz.pos,λy hy=>?_,by simp,λb vF=>?_,λg hg=>⟨(tz.mo g hg).1,by simpa using (tz.mo g hg).2.1,by rw[<- Ip];exact (tz.mo g hg).2.2⟩,hdp⟩
      .rcases pX.1 hy with h|h
       .simp only[E8];exact vY y h
       .simp only[E8];exact⟨(vE y h).1,λc hc=>Dg ((vE y h).2 c hc)⟩
      .simp only[pC]at vF;subst vF;refine⟨zP,_,sa w b0 cur _ _ _ uO,?_,by simp only[pU,htk];exact vw,hmaxc,λi y hy j c hc=>?_⟩
       .simp only[rX,pU,rP,rb,rO]at vh⊢;rw[<- vq];omega
       .simp only at hy⊢;rw[LA vh];by_cases vQ:i<n
        .rw[pM (by omega),pn,pI vQ]at hy;obtain⟨u,f1,f2⟩:=uK i y hy j c hc;have yO:j<o.row.size:=by rw[<- (tz.lens y (ov hy)).1];exact (pA.1 hc).1
         have:(i+1)*o.row.size<=n*o.row.size:=qB _ vQ;rw[pt]at this;refine⟨u,?_,uG _ _ f2⟩;rw[pI (by rw[<- ue,<- E8];omega)];exact f1
        .rw[pN (by omega),htk]at hy;obtain⟨u,f1,f2⟩:=hrep.2 _ y hy j c hc;refine⟨u,?_,uG _ _ f2⟩;have uU:=(pA.1 f1).1;have h3:n*o.row.size<=i*o.row.size:=qB _ (by omega);rw[Nat.sub_mul]at f1 uU;rw[<- E8]at f1 uU;rw[pJ (by rw[<- ue,<- E8];omega),pI (by rw[<- ue,<- E8];omega),<- f1];congr 1;rw[<- ue,<- E8];omega)
     refine⟨_,_,_,_,_,hk,uP,hset'.1,?_,hset'.2.1⟩;simp only[Ab];exact⟨_,wI _,by simp,⟨_,_,_,rfl⟩,λ_=>⟨by simp only[pU,htk];omega,.inr ⟨_,rfl,by simp[hnw]⟩⟩⟩
    ·
     have hold:∀(i:Nat) y,(o.row.xs.take n)[i]?=some y->Nh F w os b0 (0+i*ei.size) y:=λi y hy=>by
      rw[pn]at hy;split at hy
      .have:=hr.Oz ho Ip hy;rw[E8]at this;simpa using this
      .cases hy
     obtain⟨va,h1,h2,_,h4⟩:=RT (λx hx=>(vY x hx).1) hold;have uP:=rW (P:=P) w t ty ei.e inf z hu hi hz ⟨b0,0,none⟩ n o.cap va (by rw[h1,htk,ue]) h2 ⟨b,off,none⟩ ys.length c us yQ vK (by omega) (by omega) (rh (by omega) (by rw[<- hby];exact hb));have hgg:=wc (grownCap w (n+ys.length) o.cap ei.e) va ⟨h1,λi y hy j c hc=>by obtain⟨u,f1,_,f2⟩:=h4 i y hy j c hc;exact⟨u,f1,f2⟩⟩ (λb wa k u vF vG hk q=>by
      rw[Ip]at vF;cases vF;rw[uO]at vG;cases vG;have xz:k<va.length:=by rw[h1,htk];exact hk
      have:=h2 k _ (pF xz);rw[Ce,rj w b0 _ cur _ _ uO,qO,q]at this;rw[pF xz,<- this]) (xX o.cap ei.e) (zA o.cap ei.e (by simp[maxLen];omega))
     exact⟨_,_,_,_,_,hk,uP,hgg.1,by simpa [Ab] using hfin _,hgg.2⟩
 |_=>exact h.elim
end Go.Abs
