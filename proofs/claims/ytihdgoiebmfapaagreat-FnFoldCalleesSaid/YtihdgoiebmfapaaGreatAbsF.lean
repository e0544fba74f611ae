import Derived.Test.YtihdgoiebmfapaaGreatAbsE
namespace Go.Abs
open Go
variable {P : Program} {F : Nat -> Prop} {os : List Own} {s : St} {a : Act} {w : World} {k : Nat}
def Gh (F:Nat->Prop)(w:World)(os:List Own)(size:Nat)(us:List Value)(xs:List (List AV)):Prop:=
 us.length=xs.length*size/\∀(i:Nat) x,xs[i]?=some x->∀(j:Nat) c,x[j]?=some c->∃u,us[i*size+j]?=some u/\Ae F w os c u
theorem Gh.nil {size:Nat}:Gh F w os size [] []:=⟨by simp,by simp⟩
theorem Gh.append {size:Nat}{us vs:List Value}{xs ys:List (List AV)}(h:Gh F w os size us xs)(g:Gh F w os size vs ys):Gh F w os size (us++vs) (xs++ys):=by
 refine⟨by rw[mD,mD,h.1,g.1,mM],λi x hi j c hc=>?_⟩;by_cases qu:i<xs.length
 ·rw[lj qu]at hi;obtain⟨u,h1,h2⟩:=h.2 i x hi j c hc;exact⟨u,by rw[lj (lV.1 h1).1];exact h1,h2⟩
 ·rw[ln (by omega)]at hi;obtain⟨u,h1,h2⟩:=g.2 _ x hi j c hc;refine⟨u,?_,h2⟩;have:xs.length*size<=i*size:=mP _ (by omega);rw[ln (by rw[h.1];omega),<- h1,h.1];congr 1;rw[Nat.sub_mul];omega
theorem Rel.Vy (hr:Rel F os s a w){e:TypeId}{size:Nat}(rO:0<size):
  let o:Own:=⟨⟨0,e,size,[]⟩,none,0,Fc⟩
  Rel F (os++[o]) { s with st:=s.st++[o.row] } a w/\Ext F os w F (os++[o]) w k/\(∀x v,Ae F w os x v->Ae F w (os++[o]) x v):=by
 intro o;have qg:∀(i:Nat) (oi:Own),(os++[o])[i]?=some oi->os[i]?=some oi∨(i=os.length/\oi=o):=λi oi hi=>by
  rcases nG i os.length with h|h|h
  ·rw[lj h]at hi;exact .inl hi
  ·subst h;simp at hi;exact .inr ⟨rfl,hi.symm⟩
  ·rw[ln (by omega),mV (by simp;omega)]at hi;cases hi
 have:=hr.Xu (k:=k) (Hr.refl w none) (by simp) (os':=os++[o]) (FN.append os [o]) (λi oi hi=>by
   rcases qg i oi hi with h|⟨_,rfl⟩
   ·exact .inl ⟨h,by simp⟩
   ·exact .inr ⟨rO,by simp[o],by simp[o],by simp[o],λg hg=>hg.elim,Ew (by simp[o])⟩)
  (λi j oi oj g hi hj vM vN=>by
   rcases qg i oi hi with h|⟨h,rfl⟩<;>rcases qg j oj hj with h'|⟨h',rfl⟩
   ·exact hr.inj i j oi oj g h h' vM vN
   ·simp[o,Own.owns,Fc]at vN
   ·simp[o,Own.owns,Fc]at vM
   ·omega)
  (λo' rF g hg=>by
   rcases lz.1 rF with h|h
   ·exact .inr ⟨o',h,hg⟩
   ·simp only[lu]at h;subst h;simp[o,Own.owns,Fc]at hg)
  (by simp)
 refine⟨?_,this.2.1,this.2.2⟩;have h1:=this.1;rw[nI,hr.st]at h1;simpa using h1
theorem Lz {t ty e:TypeId}{i:TypeInfo}(ht:P.underlying t=some (.slice e))(hi:P.info? e=some i)(base ad:Option Addr)(n cap c:Nat)(hn:n<=cap):
  (Builtin.append_ #[t,t] ty #[.slice base n cap,.slice ad 0 c]).run P w=.ok (.slice base n cap) w:=by
 have hf:(Builtin.firstCells i.size 0 (.slice ad 0 c)).run P w=.ok #[] w:=by
  cases ad<;>simp[Builtin.firstCells,loadCells,loadCellsFrom]
 cases base<;>simp[Builtin.append_,me ht,sizeOf,typeInfo,hi,Builtin.lenOf,hn,hf,storeCells]
theorem Jz {α:Type}(l:List α)(x:α):(l++[x])[l.length]?=some x:=by simp
theorem OX {size n m cap:Nat}{z:Value}(tN:z.cells.size=size){us vs:List Value}{xs ys:List (List AV)}(hxn:xs.length=n)(hyn:ys.length=m)
  (h:Gh F w os size us xs) (g:Gh F w os size vs ys) (te:n+m<=cap) :
  (us.toArray++vs.toArray++Builtin.zeroCells z.cells (cap-(n+m))).size=cap*size/\
  ∀(i:Nat) x,(xs++ys)[i]?=some x->∀(j:Nat) c,x[j]?=some c->∃u,(us.toArray++vs.toArray++Builtin.zeroCells z.cells (cap-(n+m)))[i*size+j]?=some u/\Ae F w os c u:=by
 have uG:=Gh.append h g;constructor
 ·simp only[Array.size_append,oL,size_zeroCells,tN,h.1,g.1,hxn,hyn,<- mM];congr 1;omega
 ·intro i x hi j c hc;obtain⟨u,h1,h2⟩:=uG.2 i x hi j c hc;refine⟨u,?_,h2⟩;have qu:=(lV.1 h1).1;rw[nP (by simpa using qu)];simpa using h1
theorem ZL {t ty:TypeId}{d x:AV}{ud ux:Value}{K:AV->List Row->Prop}(hr:Rel F os s a w)(h:Vr P s.st t d x K)(hd:Ae F w os d ud)(hx:Ae F w os x ux):
  IE P k F os s a w (Builtin.append_ #[t,t] ty #[ud,ux]) K:=by
 obtain⟨ei,he,h⟩:=BP h;obtain⟨inf,z,hu,hi,hz,tN,rO,rA,hby,_,_⟩:=IS he;obtain⟨ys,h,hys,vQ,⟨ad,c,rfl,hsrc⟩⟩:=VM hr h hx;have vQ:∀y∈ys,∀c∈y,c.leaf=true:=by
  rcases vQ with rfl|h
  ·simp
  ·exact h
 have vg:0<ys.length->∃b o,ad=some ⟨b,o,none⟩/\(∀y∈ys,y.length=ei.size/\∀c∈y,c.leaf=true)/\∃us:List Value,us.length=ys.length*inf.size/\(∀(j:Nat) u,us[j]?=some u->w.cell? ((⟨b,o,none⟩:Addr).add j)=some u)/\(∀u∈us,u.oneCell'=true)/\Gh F w os ei.size us ys:=λhp=>by
  rcases hsrc with rfl|⟨b,o,rfl,hc⟩
  ·simp at hp
  ·obtain⟨us,h1,h2,h3,h4⟩:=QX hys hc;refine⟨b,o,rfl,λy hy=>⟨hys y hy,vQ y hy⟩,us,by rw[h1,rA],h2,h3,h1,λi y hy j c hc=>?_⟩;obtain⟨u,e1,_,e2⟩:=h4 i y hy j c hc;exact⟨u,e1,e2⟩
 cases d with
 | zc=>
  obtain⟨hb,hm,hk⟩:=h;simp only[Ae]at hd;obtain⟨ad0,rfl⟩:=hd;by_cases zD:ys.length=0
  ·have zE:ys=[]:=mY zD;subst zE;have:=hr.Vy (k:=k) (e:=ei.e) (size:=ei.size) (by omega);refine⟨_,_,_,_,_,hk,Lz hu hi ad0 ad 0 0 c (ll _),this.1,?_,this.2.1⟩;simp only[Ae];exact⟨⟨⟨0,ei.e,ei.size,[]⟩,none,0,Fc⟩,by rw[hr.len];simp,by simp,⟨_,_,_,rfl⟩,λ_=>⟨by simp,.inl ⟨rfl,_,rfl⟩⟩⟩
  ·obtain⟨b,o,rfl,rK,us,uH,rQ,vo,hrep⟩:=vg (by omega);have tw:=grownCap_ge w ys.length 0 ei.e;have hle:=ob w ys.length 0 ei.e (by simp[maxLen];omega);have qz:(Builtin.append_ #[t,t] ty #[.slice ad0 0 0,.slice (some ⟨b,o,none⟩) ys.length c]).run P w=.ok (.slice (some ⟨w.heap.size,0,none⟩) ys.length (grownCap w ys.length 0 ei.e))
     (w.drew.alloc (.cells (([]:List Value).toArray++us.toArray++Builtin.zeroCells z.cells (grownCap w ys.length 0 ei.e-(0+ys.length))) ei.e)):=by
    cases ad0 with
    | none=>
     have:=run_append_nil (P:=P) w t ty ei.e inf z hu hi hz ⟨b,o,none⟩ ys.length c us uH rQ (by omega) (by omega) (by rw[<- hby];omega);simpa using this
    | some a0=>
     have:=oX (P:=P) w t ty ei.e inf z hu hi hz a0 0 0 [] (by simp) (by simp) ⟨b,o,none⟩ ys.length c us uH rQ (by omega) (by omega) (oh (by omega) (by rw[<- hby,ml];exact hb));simpa using this
   obtain⟨e1,e2⟩:=OX (F:=F) (w:=w) (os:=os) (z:=z) (size:=ei.size) (n:=0) (m:=ys.length) (cap:=grownCap w ys.length 0 ei.e) (by rw[tN,rA]) (by rfl) rfl Gh.nil hrep (by omega);have:=hr.Om (k:=k) (.inr rfl) (cur:=_) (e:=ei.e) (size:=ei.size) (cap:=grownCap w ys.length 0 ei.e) (xs:=ys) (by omega) rK e1 tw hle (λi x hx j c hc=>e2 i x (by simpa using hx) j c hc);refine⟨_,_,_,_,_,hk,qz,this.1,?_,this.2.1⟩;simp only[Ae];exact⟨⟨⟨0,ei.e,ei.size,ys⟩,some w.heap.size,grownCap w ys.length 0 ei.e,Fc⟩,by rw[hr.len];exact Jz _ _,ll _,⟨_,_,_,rfl⟩,λ_=>⟨ll _,.inr ⟨_,rfl,by simp⟩⟩⟩
 | own id g n=>
  obtain⟨row,qa,hg,xT,wM,Gq,hb,hm,hk⟩:=BP h;obtain⟨o,ho,rfl⟩:=hr.row qa;simp only[Ae]at hd;obtain⟨o',rF,tw,_,hd⟩:=hd;rw[ho]at rF;cases rF;obtain⟨hnl,hd⟩:=hd hg;simp only[MO xT]at hd;have qd:=hr.rows id o ho;have xm:(o.row.xs.take n).length=n:=by simp;omega
  have tj:∀o':Own,(os.set id o')[id]?=some o':=λo'=>lp (lV.1 ho).1;have rh:∀x∈o.row.xs.take n,x.length=ei.size/\∀c∈x,c.kept=true:=λx hx=>by
   have:=qd.lens x (mq hx);rw[Gq]at this;exact this
  by_cases zD:ys.length=0
  ·have zE:ys=[]:=mY zD;subst zE;have sP:=hr.Py (k:=k) (o':={ o with row:={ o.row with gen:=g+1,xs:=o.row.xs.take n++[] } }) ho (w':=w) (Hr.refl w _) (by simp[hg]) rfl (λe=>by simp[hg]at e) (λg hg=>.inl hg) (λqi=>by
    refine⟨qd.pos,λy hy=>?_,λhn=>?_,λb rM=>?_,qd.mo,qd.deep.keep rfl (λ_ h=>h) rfl (λ_ _=>rfl) (λi x j e s ys hx hc=>by
     simp only[mn,mJ]at hx;split at hx
     ·exact⟨x,hx,hc⟩
     ·cases hx)⟩
    ·simp only[mn]at hy;exact qd.lens y (mq hy)
    ·have:=qd.none hn;simp[this.1,this.2]
    ·obtain⟨h1,cur,h2,h3,h4,h5,h6⟩:=qd.some b rM;refine⟨h1,cur,h2,h3,by simp;omega,h5,λi y hy j c hc=>?_⟩;simp only[mn,mJ]at hy;split at hy
     ·obtain⟨u,e1,e2⟩:=h6 i y hy j c hc;exact⟨u,e1,qi _ _ e2⟩
     ·cases hy)
   have xn:∃base cp,ud=.slice base n cp/\n<=cp/\((o.Fk=none/\ud=.slice base n 0)∨∃b,o.Fk=some b/\ud=.slice (some ⟨b,0,none⟩) n o.cap):=by
    rcases hd with ⟨vH,a0,rfl⟩|⟨b,Js,rfl⟩
    ·have:=qd.none vH;simp only[this.1,nD,pS]at hnl;exact⟨a0,0,rfl,by omega,.inl ⟨vH,rfl⟩⟩
    ·obtain⟨_,_,_,_,h4,_⟩:=qd.some b Js;exact⟨_,o.cap,rfl,by omega,.inr ⟨b,Js,rfl⟩⟩
   obtain⟨base,cp,rfl,hncp,hv⟩:=xn;refine⟨_,_,_,_,_,hk,Lz hu hi base ad n cp c hncp,sP.1,?_,sP.2.1⟩;simp only[Ae];refine⟨_,tj _,by simp,⟨_,_,_,rfl⟩,λ_=>⟨by simp;omega,?_⟩⟩;rcases hv with ⟨vH,hv⟩|⟨b,Js,hv⟩
   ·exact .inl ⟨vH,base,by simpa using hv⟩
   ·have hz:min n o.row.xs.length-n=0:=by omega
    exact .inr ⟨b,Js,by simpa [hz] using hv⟩
  ·obtain⟨b,off,rfl,rK,us,uH,rQ,vo,hrep⟩:=vg (by omega);have hgen:∀(cap:Nat) (rl:List Value),Gh F w os ei.size rl (o.row.xs.take n)->(∀(b:Nat) (cur:Array Value) (k:Nat) (u:Value),o.Fk=some b->w.heap[b]?=some (.cells cur o.row.elem (0,0))->k<n*ei.size->cur[k]?=some u->rl[k]?=some u)->n+ys.length<=cap->cap<=maxLen->
     Rel F (os.set id ⟨⟨g+1,o.row.elem,o.row.size,o.row.xs.take n++ys⟩,some w.heap.size,cap,o.more⟩) { s with st:=s.st.set id ⟨g+1,o.row.elem,o.row.size,o.row.xs.take n++ys⟩ } a (w.drew.alloc (.cells (rl.toArray++us.toArray++Builtin.zeroCells z.cells (cap-(n+ys.length))) ei.e))/\
     Ext F os w F (os.set id ⟨⟨g+1,o.row.elem,o.row.size,o.row.xs.take n++ys⟩,some w.heap.size,cap,o.more⟩) (w.drew.alloc (.cells (rl.toArray++us.toArray++Builtin.zeroCells z.cells (cap-(n+ys.length))) ei.e)) k:=λcap rl hold holdv te sc=>by
    obtain⟨e1,e2⟩:=OX (F:=F) (w:=w) (os:=os) (z:=z) (size:=ei.size) (n:=n) (m:=ys.length) (cap:=cap) (by rw[tN,rA]) xm rfl hold hrep te;have:=hr.Py (k:=k) (o':=⟨⟨g+1,o.row.elem,o.row.size,o.row.xs.take n++ys⟩,some w.heap.size,cap,o.more⟩) ho (w':=w.drew.alloc (.cells (rl.toArray++us.toArray++Builtin.zeroCells z.cells (cap-(n+ys.length))) ei.e)) (Mm _ _ _) (by simp[hg]) rfl (λe=>by simp[hg]at e) (λg hg=>by
      rcases hg with hg|hg
      ·simp only[lX]at hg;exact .inr (by omega)
      ·exact .inl (.inr hg)) (λqi=>by
     have hdp:Kd (w.drew.alloc (.cells (rl.toArray++us.toArray++Builtin.zeroCells z.cells (cap-(n+ys.length))) ei.e)) ⟨⟨g+1,o.row.elem,o.row.size,o.row.xs.take n++ys⟩,some w.heap.size,cap,o.more⟩:=by
      obtain⟨D,d1,d2,d3⟩:=qd.deep;refine⟨D,d1,d2,λb' rM uF el l rP i y j e s' zs hy hc=>?_⟩;simp only[lX]at rM hy⊢;subst rM;have wm:=heap_alloc_new w.drew (.cells (rl.toArray++us.toArray++Builtin.zeroCells z.cells (cap-(n+ys.length))) ei.e);have zF:some (Obj.cells (rl.toArray++us.toArray++Builtin.zeroCells z.cells (cap-(n+ys.length))) ei.e)=some (.cells uF el l):=wm.symm.trans rP;cases zF;have rY:i<n:=by
       rcases nb i n with h|h
       ·exact h
       ·rw[ln (by omega)]at hy;have:=rK y (lT hy);have:=this.2 _ (lT hc);simp[AV.leaf]at this
      rw[lj (by omega),mJ,ld rY]at hy;have Js:∃b,o.Fk=some b:=by
       cases hbk:o.Fk with
       | none=>have:=(qd.none hbk).1;rw[this]at hy;simp at hy
       | some b=>exact⟨b,rfl⟩
      obtain⟨b,Js⟩:=Js;obtain⟨_,cur,qt,_⟩:=qd.some b Js;obtain⟨u,q1,q2⟩:=d3 b Js cur _ _ qt i y j e s' zs hy hc;have uD:j<o.row.size:=by rw[<- (qd.lens y (lT hy)).1];exact (lV.1 hc).1
      have tk:i*o.row.size+j<n*ei.size:=by
       have:(i+1)*o.row.size<=n*o.row.size:=mP _ rY;rw[mM]at this;rw[<- Gq];omega
      have q3:=holdv b cur _ u Js qt tk q1;refine⟨u,?_,MX (w:=w) (λ_ h=>h) (λc sJ=>oO w.drew _ (qd.mo _ (d1 _ _ _ sJ)).2.1) _ u q2⟩;have qu:=(lV.1 q3).1;rw[nP (by simp;omega),nP (by simpa using qu)];simpa using q3
     refine⟨qd.pos,λy hy=>?_,by simp,λb rM=>?_,λg hg=>⟨(qd.mo g hg).1,by have:=(qd.mo g hg).2.1;simp;omega,λe=>by simp only[lX]at e;have:=(qd.mo g hg).2.1;omega⟩,hdp⟩
     ·rcases lz.1 hy with h|h
      ·simp only[Gq];exact rh y h
      ·simp only[Gq];exact⟨(rK y h).1,λc hc=>D4 ((rK y h).2 c hc)⟩
     ·simp only[lX]at rM;subst rM;refine⟨λhF=>absurd (hr.FR _ hF) (Nat.lt_irrefl _),_,by rw[wM];exact heap_alloc_new w.drew _,by simp only[Gq];exact e1,by simp only[mD,xm];exact te,sc,λi y hy j c hc=>?_⟩;obtain⟨u,f1,f2⟩:=e2 i y hy j c hc;exact⟨u,by simpa only[Gq] using f1,qi _ _ f2⟩)
    exact⟨this.1,this.2.1⟩
   have vp:∀cap,Ae F (w.drew.alloc (.cells #[] 0)) (os.set id ⟨⟨g+1,o.row.elem,o.row.size,o.row.xs.take n++ys⟩,some w.heap.size,cap,o.more⟩) (.own id (g+1) (n+ys.length)) (.slice (some ⟨w.heap.size,0,none⟩) (n+ys.length) cap):=λcap=>by
    simp only[Ae];exact⟨_,tj _,by simp,⟨_,_,_,rfl⟩,λ_=>⟨by simp only[mD,xm];omega,.inr ⟨_,rfl,(MO (o:=⟨⟨g+1,o.row.elem,o.row.size,o.row.xs.take n++ys⟩,some w.heap.size,_,o.more⟩) (by rw[mD,xm])).symm⟩⟩⟩
   have tw:=grownCap_ge w (n+ys.length);have wo:=ob w (n+ys.length);rcases hd with ⟨vH,a0,rfl⟩|⟨b0,Js,rfl⟩
   ·have vR:=qd.none vH;simp only[vR.1,nD,pS]at hnl;subst hnl;have qz:(Builtin.append_ #[t,t] ty #[.slice a0 0 0,.slice (some ⟨b,off,none⟩) ys.length c]).run P w=.ok (.slice (some ⟨w.heap.size,0,none⟩) (0+ys.length) (grownCap w (0+ys.length) 0 ei.e))
      (w.drew.alloc (.cells (([]:List Value).toArray++us.toArray++Builtin.zeroCells z.cells (grownCap w (0+ys.length) 0 ei.e-(0+ys.length))) ei.e)):=by
     cases a0 with
     | none=>
      have:=run_append_nil (P:=P) w t ty ei.e inf z hu hi hz ⟨b,off,none⟩ ys.length c us uH rQ (by omega) (by omega) (by rw[<- hby];rw[ml]at hb;omega);simpa using this
     | some a0=>
      have:=oX (P:=P) w t ty ei.e inf z hu hi hz a0 0 0 [] (by simp) (by simp) ⟨b,off,none⟩ ys.length c us uH rQ (by omega) (by omega) (oh (by omega) (by rw[<- hby];exact hb));simpa using this
    have vq:=hgen (grownCap w (0+ys.length) 0 ei.e) [] (by simp[Gh]) (λb cur k u hb=>by rw[vH]at hb;cases hb) (tw 0 ei.e) (wo 0 ei.e (by simp[maxLen];omega));exact⟨_,_,_,_,_,hk,qz,vq.1,by simpa [Ae] using vp _,vq.2⟩
   ·obtain⟨vO,cur,qt,sY,xR,vh,qw⟩:=qd.some b0 Js;by_cases hroom:n+ys.length<=o.cap
    ·have sB:n*inf.size+us.length<=cur.size:=by rw[uH,sY,Gq,rA,<- mM];exact mP _ hroom
     have qz:=run_append_room (P:=P) w t ty ei.e inf hu hi b0 n o.cap cur (by rw[<- wM];exact qt) ⟨b,off,none⟩ ys.length c us uH rQ vo hroom sB;have yR:=hr.Py (k:=k) (o':=⟨⟨g+1,o.row.elem,o.row.size,o.row.xs.take n++ys⟩,some b0,o.cap,o.more⟩) ho (w':=w.setRow b0 (cur.toList.take (n*inf.size)++us++cur.toList.drop (n*inf.size+us.length)).toArray) (by rw[Js];exact Hr.setRow _ _ _) (by simp[hg]) rfl (λe=>by simp[hg]at e) (λg hg=>by
       rcases hg with hg|hg
       ·simp only[lX]at hg;exact .inl (.inl (by rw[Js,hg]))
       ·exact .inl (.inr hg)) (λqi=>by
      have hdp:Kd (w.setRow b0 (cur.toList.take (n*inf.size)++us++cur.toList.drop (n*inf.size+us.length)).toArray) ⟨⟨g+1,o.row.elem,o.row.size,o.row.xs.take n++ys⟩,some b0,o.cap,o.more⟩:=by
       obtain⟨D,d1,d2,d3⟩:=qd.deep;refine⟨D,d1,d2,λb' rM uF el l rP i y j e s' zs hy hc=>?_⟩;simp only[lX]at rM hy⊢;subst rM;rw[pT w b0 cur _ _ _ qt]at rP;cases rP;have rY:i<n:=by
        rcases nb i n with h|h
        ·exact h
        ·rw[ln (by omega)]at hy;have:=rK y (lT hy);have:=this.2 _ (lT hc);simp[AV.leaf]at this
       rw[lj (by omega),mJ,ld rY]at hy;obtain⟨u,q1,q2⟩:=d3 b0 Js cur _ _ qt i y j e s' zs hy hc;have uD:j<o.row.size:=by rw[<- (qd.lens y (lT hy)).1];exact (lV.1 hc).1
       have tk:i*o.row.size+j<n*inf.size:=by
        have:(i+1)*o.row.size<=n*o.row.size:=mP _ rY;rw[mM]at this;rw[<- rA,<- Gq];omega
       refine⟨u,?_,MX (λ_ h=>h) (λc sJ=>setRow_other w b0 c _ λe=>(qd.mo _ (d1 _ _ _ sJ)).2.2 (by rw[Js,e])) _ u q2⟩;rw[KP sB,ld tk];exact q1
      refine⟨qd.pos,λy hy=>?_,by simp,λb rM=>?_,λg hg=>⟨(qd.mo g hg).1,by simpa using (qd.mo g hg).2.1,by rw[<- Js];exact (qd.mo g hg).2.2⟩,hdp⟩
      ·rcases lz.1 hy with h|h
       ·simp only[Gq];exact rh y h
       ·simp only[Gq];exact⟨(rK y h).1,λc hc=>D4 ((rK y h).2 c hc)⟩
      ·simp only[lX]at rM;subst rM;refine⟨vO,_,pT w b0 cur _ _ _ qt,?_,by simp only[mD,xm];exact hroom,vh,λi y hy j c hc=>?_⟩
       ·simp only[oL,mD,nq,oE,nt]at sB⊢;rw[<- sY];omega
       ·simp only at hy⊢;rw[KP sB];by_cases rY:i<n
        ·rw[lj (by omega),mJ,ld rY]at hy;obtain⟨u,f1,f2⟩:=qw i y hy j c hc;have uD:j<o.row.size:=by rw[<- (qd.lens y (lT hy)).1];exact (lV.1 hc).1
         have:(i+1)*o.row.size<=n*o.row.size:=mP _ rY;rw[mM]at this;refine⟨u,?_,qi _ _ f2⟩;rw[ld (by rw[<- rA,<- Gq];omega)];exact f1
        ·rw[ln (by omega),xm]at hy;obtain⟨u,f1,f2⟩:=hrep.2 _ y hy j c hc;refine⟨u,?_,qi _ _ f2⟩;have qu:=(lV.1 f1).1;have h3:n*o.row.size<=i*o.row.size:=mP _ (by omega);rw[Nat.sub_mul]at f1 qu;rw[<- Gq]at f1 qu;rw[la (by rw[<- rA,<- Gq];omega),ld (by rw[<- rA,<- Gq];omega),<- f1];congr 1;rw[<- rA,<- Gq];omega)
     refine⟨_,_,_,_,_,hk,qz,yR.1,?_,yR.2.1⟩;simp only[Ae];exact⟨_,tj _,by simp,⟨_,_,_,rfl⟩,λ_=>⟨by simp only[mD,xm];omega,.inr ⟨_,rfl,by simp[xT]⟩⟩⟩
    ·
     have hold:∀(i:Nat) y,(o.row.xs.take n)[i]?=some y->Mj F w os b0 (0+i*ei.size) y:=λi y hy=>by
      rw[mJ]at hy;split at hy
      ·have:=hr.OD ho Js hy;rw[Gq]at this;simpa using this
      ·cases hy
     obtain⟨rl,h1,h2,_,h4⟩:=QX (λx hx=>(rh x hx).1) hold;have qz:=oX (P:=P) w t ty ei.e inf z hu hi hz ⟨b0,0,none⟩ n o.cap rl (by rw[h1,xm,rA]) h2 ⟨b,off,none⟩ ys.length c us uH rQ (by omega) (by omega) (oh (by omega) (by rw[<- hby];exact hb));have vq:=hgen (grownCap w (n+ys.length) o.cap ei.e) rl ⟨h1,λi y hy j c hc=>by obtain⟨u,f1,_,f2⟩:=h4 i y hy j c hc;exact⟨u,f1,f2⟩⟩ (λb uF k u rM rP hk q=>by
      rw[Js]at rM;cases rM;rw[qt]at rP;cases rP;have tk:k<rl.length:=by rw[h1,xm];exact hk
      have:=h2 k _ (lZ tk);rw[DJ,oc w b0 _ cur _ _ qt,ml,q]at this;rw[lZ tk,<- this]) (tw o.cap ei.e) (wo o.cap ei.e (by simp[maxLen];omega))
     exact⟨_,_,_,_,_,hk,qz,vq.1,by simpa [Ae] using vp _,vq.2⟩
 | _=>exact h.elim
end Go.Abs
