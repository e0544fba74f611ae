import Derived.Test.YtihdgoiebmfapaaGreatAbsE
set_option linter.all false
namespace Go.Abs
open Go
variable {P : Program} {F : Nat -> Prop} {os : List Own} {s : St} {a : Act} {w : World} {k : Nat}
def Gj (F:Nat->Prop)(w:World)(os:List Own)(size:Nat)(us:List Value)(xs:List (List AV)):Prop:=
 us.length=xs.length*size/\∀(i:Nat) x,xs[i]?=some x->∀(j:Nat) c,x[j]?=some c->∃u,us[i*size+j]?=some u/\Ae F w os c u
theorem Gj.nil {size:Nat}:Gj F w os size [] []:=⟨by simp,by simp⟩
theorem Gj.append {size:Nat}{us vs:List Value}{xs ys:List (List AV)}(h:Gj F w os size us xs)(g:Gj F w os size vs ys):Gj F w os size (us++vs) (xs++ys):=by
 refine⟨by rw[mD,mD,h.1,g.1,mM],λi x hi j c hc=>?_⟩;by_cases qw:i<xs.length
 ·rw[lj qw]at hi;obtain⟨u,h1,h2⟩:=h.2 i x hi j c hc;exact⟨u,by rw[lj (lV.1 h1).1];exact h1,h2⟩
 ·rw[ln (by omega)]at hi;obtain⟨u,h1,h2⟩:=g.2 _ x hi j c hc;refine⟨u,?_,h2⟩;have:xs.length*size<=i*size:=mP _ (by omega);rw[ln (by rw[h.1];omega),<- h1,h.1];congr 1;rw[Nat.sub_mul];omega
theorem Rel.WD (hr:Rel F os s a w){e:TypeId}{size:Nat}(rQ:0<size):
  let o:Own:=⟨⟨0,e,size,[]⟩,none,0,Fe⟩
  Rel F (os++[o]) { s with st:=s.st++[o.row] } a w/\Ext F os w F (os++[o]) w k/\(∀x v,Ae F w os x v->Ae F w (os++[o]) x v):=by
 intro o;have qi:∀(i:Nat) (oi:Own),(os++[o])[i]?=some oi->os[i]?=some oi∨(i=os.length/\oi=o):=λi oi hi=>by
  rcases nG i os.length with h|h|h
  ·rw[lj h]at hi;exact .inl hi
  ·subst h;simp at hi;exact .inr ⟨rfl,hi.symm⟩
  ·rw[ln (by omega),mV (by simp;omega)]at hi;cases hi
 have:=hr.YE (k:=k) (Hl.refl w none) (by simp) (os':=os++[o]) (FK.append os [o]) (λi oi hi=>by
   rcases qi i oi hi with h|⟨_,rfl⟩
   ·exact .inl ⟨h,by simp⟩
   ·exact .inr ⟨rQ,by simp[o],by simp[o],by simp[o],λg hg=>hg.elim,Et (by simp[o])⟩)
  (λi j oi oj g hi hj vO vP=>by
   rcases qi i oi hi with h|⟨h,rfl⟩<;>rcases qi j oj hj with h'|⟨h',rfl⟩
   ·exact hr.inj i j oi oj g h h' vO vP
   ·simp[o,Own.owns,Fe]at vP
   ·simp[o,Own.owns,Fe]at vO
   ·omega)
  (λo' rH g hg=>by
   rcases lz.1 rH with h|h
   ·exact .inr ⟨o',h,hg⟩
   ·simp only[lu]at h;subst h;simp[o,Own.owns,Fe]at hg)
  (by simp)
 refine⟨?_,this.2.1,this.2.2⟩;have h1:=this.1;rw[nI,hr.st]at h1;simpa using h1
theorem L3 {t ty e:TypeId}{i:TypeInfo}(ht:P.underlying t=some (.slice e))(hi:P.info? e=some i)(base ad:Option Addr)(n cap c:Nat)(hn:n<=cap):
  (Builtin.append_ #[t,t] ty #[.slice base n cap,.slice ad 0 c]).run P w=.ok (.slice base n cap) w:=by
 have hf:(Builtin.firstCells i.size 0 (.slice ad 0 c)).run P w=.ok #[] w:=by
  cases ad<;>simp[Builtin.firstCells,loadCells,loadCellsFrom]
 cases base<;>simp[Builtin.append_,me ht,sizeOf,typeInfo,hi,Builtin.lenOf,hn,hf,storeCells]
theorem J0 {α:Type}(l:List α)(x:α):(l++[x])[l.length]?=some x:=by simp
theorem Of {size n m cap:Nat}{z:Value}(tP:z.cells.size=size){us vs:List Value}{xs ys:List (List AV)}(hxn:xs.length=n)(hyn:ys.length=m)
  (h:Gj F w os size us xs) (g:Gj F w os size vs ys) (tj:n+m<=cap) :
  (us.toArray++vs.toArray++Builtin.zeroCells z.cells (cap-(n+m))).size=cap*size/\
  ∀(i:Nat) x,(xs++ys)[i]?=some x->∀(j:Nat) c,x[j]?=some c->∃u,(us.toArray++vs.toArray++Builtin.zeroCells z.cells (cap-(n+m)))[i*size+j]?=some u/\Ae F w os c u:=by
 have uI:=Gj.append h g;constructor
 ·simp only[Array.size_append,oL,size_zeroCells,tP,h.1,g.1,hxn,hyn,<- mM];congr 1;omega
 ·intro i x hi j c hc;obtain⟨u,h1,h2⟩:=uI.2 i x hi j c hc;refine⟨u,?_,h2⟩;have qw:=(lV.1 h1).1;rw[nP (by simpa using qw)];simpa using h1
theorem Zv {t ty:TypeId}{d x:AV}{ud ux:Value}{K:AV->List Row->Prop}(hr:Rel F os s a w)(h:Vr P s.st t d x K)(hd:Ae F w os d ud)(hx:Ae F w os x ux):
  H9 P k F os s a w (Builtin.append_ #[t,t] ty #[ud,ux]) K:=by
 obtain⟨ei,he,h⟩:=BP h;obtain⟨inf,z,hu,hi,hz,tP,rQ,rC,hby,_,_⟩:=IS he;obtain⟨ys,h,hys,vS,⟨ad,c,rfl,hsrc⟩⟩:=WX hr h hx;have vS:∀y∈ys,∀c∈y,c.leaf=true:=by
  rcases vS with rfl|h
  ·simp
  ·exact h
 have vk:0<ys.length->∃b o,ad=some ⟨b,o,none⟩/\(∀y∈ys,y.length=ei.size/\∀c∈y,c.leaf=true)/\∃us:List Value,us.length=ys.length*inf.size/\(∀(j:Nat) u,us[j]?=some u->w.cell? ((⟨b,o,none⟩:Addr).add j)=some u)/\(∀u∈us,u.oneCell'=true)/\Gj F w os ei.size us ys:=λhp=>by
  rcases hsrc with rfl|⟨b,o,rfl,hc⟩
  ·simp at hp
  ·obtain⟨us,h1,h2,h3,h4⟩:=QV hys hc;refine⟨b,o,rfl,λy hy=>⟨hys y hy,vS y hy⟩,us,by rw[h1,rC],h2,h3,h1,λi y hy j c hc=>?_⟩;obtain⟨u,e1,_,e2⟩:=h4 i y hy j c hc;exact⟨u,e1,e2⟩
 cases d with
 | zc=>
  obtain⟨hb,hm,hk⟩:=h;simp only[Ae]at hd;obtain⟨ad0,rfl⟩:=hd;by_cases zF:ys.length=0
  ·have zG:ys=[]:=mY zF;subst zG;have:=hr.WD (k:=k) (e:=ei.e) (size:=ei.size) (by omega);refine⟨_,_,_,_,_,hk,L3 hu hi ad0 ad 0 0 c (ll _),this.1,?_,this.2.1⟩;simp only[Ae];exact⟨⟨⟨0,ei.e,ei.size,[]⟩,none,0,Fe⟩,by rw[hr.len];simp,by simp,⟨_,_,_,rfl⟩,λ_=>⟨by simp,.inl ⟨rfl,_,rfl⟩⟩⟩
  ·obtain⟨b,o,rfl,rM,us,uJ,rS,vq,hrep⟩:=vk (by omega);have tz:=grownCap_ge w ys.length 0 ei.e;have hle:=ob w ys.length 0 ei.e (by simp[maxLen];omega);have rB:(Builtin.append_ #[t,t] ty #[.slice ad0 0 0,.slice (some ⟨b,o,none⟩) ys.length c]).run P w=.ok (.slice (some ⟨w.heap.size,0,none⟩) ys.length (grownCap w ys.length 0 ei.e))
     (w.drew.alloc (.cells (([]:List Value).toArray++us.toArray++Builtin.zeroCells z.cells (grownCap w ys.length 0 ei.e-(0+ys.length))) ei.e)):=by
    cases ad0 with
    | none=>
     have:=run_append_nil (P:=P) w t ty ei.e inf z hu hi hz ⟨b,o,none⟩ ys.length c us uJ rS (by omega) (by omega) (by rw[<- hby];omega);simpa using this
    | some a0=>
     have:=oX (P:=P) w t ty ei.e inf z hu hi hz a0 0 0 [] (by simp) (by simp) ⟨b,o,none⟩ ys.length c us uJ rS (by omega) (by omega) (oh (by omega) (by rw[<- hby,ml];exact hb));simpa using this
   obtain⟨e1,e2⟩:=Of (F:=F) (w:=w) (os:=os) (z:=z) (size:=ei.size) (n:=0) (m:=ys.length) (cap:=grownCap w ys.length 0 ei.e) (by rw[tP,rC]) (by rfl) rfl Gj.nil hrep (by omega);have:=hr.Oa (k:=k) (.inr rfl) (cur:=_) (e:=ei.e) (size:=ei.size) (cap:=grownCap w ys.length 0 ei.e) (xs:=ys) (by omega) rM e1 tz hle (λi x hx j c hc=>e2 i x (by simpa using hx) j c hc);refine⟨_,_,_,_,_,hk,rB,this.1,?_,this.2.1⟩;simp only[Ae];exact⟨⟨⟨0,ei.e,ei.size,ys⟩,some w.heap.size,grownCap w ys.length 0 ei.e,Fe⟩,by rw[hr.len];exact J0 _ _,ll _,⟨_,_,_,rfl⟩,λ_=>⟨ll _,.inr ⟨_,rfl,by simp⟩⟩⟩
 | own id g n=>
  obtain⟨row,qc,hg,xV,wO,Gt,hb,hm,hk⟩:=BP h;obtain⟨o,ho,rfl⟩:=hr.row qc;simp only[Ae]at hd;obtain⟨o',rH,tz,_,hd⟩:=hd;rw[ho]at rH;cases rH;obtain⟨hnl,hd⟩:=hd hg;simp only[MM xV]at hd;have qf:=hr.rows id o ho;have xp:(o.row.xs.take n).length=n:=by simp;omega
  have tl:∀o':Own,(os.set id o')[id]?=some o':=λo'=>lp (lV.1 ho).1;have rj:∀x∈o.row.xs.take n,x.length=ei.size/\∀c∈x,c.kept=true:=λx hx=>by
   have:=qf.lens x (mq hx);rw[Gt]at this;exact this
  by_cases zF:ys.length=0
  ·have zG:ys=[]:=mY zF;subst zG;have sR:=hr.Pt (k:=k) (o':={ o with row:={ o.row with gen:=g+1,xs:=o.row.xs.take n++[] } }) ho (w':=w) (Hl.refl w _) (by simp[hg]) rfl (λe=>by simp[hg]at e) (λg hg=>.inl hg) (λqk=>by
    refine⟨qf.pos,λy hy=>?_,λhn=>?_,λb rO=>?_,qf.mo,qf.deep.keep rfl (λ_ h=>h) rfl (λ_ _=>rfl) (λi x j e s ys hx hc=>by
     simp only[mn,mJ]at hx;split at hx
     ·exact⟨x,hx,hc⟩
     ·cases hx)⟩
    ·simp only[mn]at hy;exact qf.lens y (mq hy)
    ·have:=qf.none hn;simp[this.1,this.2]
    ·obtain⟨h1,cur,h2,h3,h4,h5,h6⟩:=qf.some b rO;refine⟨h1,cur,h2,h3,by simp;omega,h5,λi y hy j c hc=>?_⟩;simp only[mn,mJ]at hy;split at hy
     ·obtain⟨u,e1,e2⟩:=h6 i y hy j c hc;exact⟨u,e1,qk _ _ e2⟩
     ·cases hy)
   have xu:∃base cp,ud=.slice base n cp/\n<=cp/\((o.Fk=none/\ud=.slice base n 0)∨∃b,o.Fk=some b/\ud=.slice (some ⟨b,0,none⟩) n o.cap):=by
    rcases hd with ⟨vJ,a0,rfl⟩|⟨b,Js,rfl⟩
    ·have:=qf.none vJ;simp only[this.1,nD,pS]at hnl;exact⟨a0,0,rfl,by omega,.inl ⟨vJ,rfl⟩⟩
    ·obtain⟨_,_,_,_,h4,_⟩:=qf.some b Js;exact⟨_,o.cap,rfl,by omega,.inr ⟨b,Js,rfl⟩⟩
   obtain⟨base,cp,rfl,hncp,hv⟩:=xu;refine⟨_,_,_,_,_,hk,L3 hu hi base ad n cp c hncp,sR.1,?_,sR.2.1⟩;simp only[Ae];refine⟨_,tl _,by simp,⟨_,_,_,rfl⟩,λ_=>⟨by simp;omega,?_⟩⟩;rcases hv with ⟨vJ,hv⟩|⟨b,Js,hv⟩
   ·exact .inl ⟨vJ,base,by simpa using hv⟩
   ·have hz:min n o.row.xs.length-n=0:=by omega
    exact .inr ⟨b,Js,by simpa [hz] using hv⟩
  ·obtain⟨b,off,rfl,rM,us,uJ,rS,vq,hrep⟩:=vk (by omega);have hgen:∀(cap:Nat) (rn:List Value),Gj F w os ei.size rn (o.row.xs.take n)->(∀(b:Nat) (cur:Array Value) (k:Nat) (u:Value),o.Fk=some b->w.heap[b]?=some (.cells cur o.row.elem (0,0))->k<n*ei.size->cur[k]?=some u->rn[k]?=some u)->n+ys.length<=cap->cap<=maxLen->
     Rel F (os.set id ⟨⟨g+1,o.row.elem,o.row.size,o.row.xs.take n++ys⟩,some w.heap.size,cap,o.more⟩) { s with st:=s.st.set id ⟨g+1,o.row.elem,o.row.size,o.row.xs.take n++ys⟩ } a (w.drew.alloc (.cells (rn.toArray++us.toArray++Builtin.zeroCells z.cells (cap-(n+ys.length))) ei.e))/\
     Ext F os w F (os.set id ⟨⟨g+1,o.row.elem,o.row.size,o.row.xs.take n++ys⟩,some w.heap.size,cap,o.more⟩) (w.drew.alloc (.cells (rn.toArray++us.toArray++Builtin.zeroCells z.cells (cap-(n+ys.length))) ei.e)) k:=λcap rn hold holdv tj se=>by
    obtain⟨e1,e2⟩:=Of (F:=F) (w:=w) (os:=os) (z:=z) (size:=ei.size) (n:=n) (m:=ys.length) (cap:=cap) (by rw[tP,rC]) xp rfl hold hrep tj;have:=hr.Pt (k:=k) (o':=⟨⟨g+1,o.row.elem,o.row.size,o.row.xs.take n++ys⟩,some w.heap.size,cap,o.more⟩) ho (w':=w.drew.alloc (.cells (rn.toArray++us.toArray++Builtin.zeroCells z.cells (cap-(n+ys.length))) ei.e)) (MQ _ _ _) (by simp[hg]) rfl (λe=>by simp[hg]at e) (λg hg=>by
      rcases hg with hg|hg
      ·simp only[lX]at hg;exact .inr (by omega)
      ·exact .inl (.inr hg)) (λqk=>by
     have hdp:Kq (w.drew.alloc (.cells (rn.toArray++us.toArray++Builtin.zeroCells z.cells (cap-(n+ys.length))) ei.e)) ⟨⟨g+1,o.row.elem,o.row.size,o.row.xs.take n++ys⟩,some w.heap.size,cap,o.more⟩:=by
      obtain⟨D,d1,d2,d3⟩:=qf.deep;refine⟨D,d1,d2,λb' rO uH el l rR i y j e s' zs hy hc=>?_⟩;simp only[lX]at rO hy⊢;subst rO;have wq:=heap_alloc_new w.drew (.cells (rn.toArray++us.toArray++Builtin.zeroCells z.cells (cap-(n+ys.length))) ei.e);have zH:some (Obj.cells (rn.toArray++us.toArray++Builtin.zeroCells z.cells (cap-(n+ys.length))) ei.e)=some (.cells uH el l):=wq.symm.trans rR;cases zH;have re:i<n:=by
       rcases nb i n with h|h
       ·exact h
       ·rw[ln (by omega)]at hy;have:=rM y (lT hy);have:=this.2 _ (lT hc);simp[AV.leaf]at this
      rw[lj (by omega),mJ,ld re]at hy;have Js:∃b,o.Fk=some b:=by
       cases hbk:o.Fk with
       | none=>have:=(qf.none hbk).1;rw[this]at hy;simp at hy
       | some b=>exact⟨b,rfl⟩
      obtain⟨b,Js⟩:=Js;obtain⟨_,cur,qv,_⟩:=qf.some b Js;obtain⟨u,q1,q2⟩:=d3 b Js cur _ _ qv i y j e s' zs hy hc;have uG:j<o.row.size:=by rw[<- (qf.lens y (lT hy)).1];exact (lV.1 hc).1
      have tm:i*o.row.size+j<n*ei.size:=by
       have:(i+1)*o.row.size<=n*o.row.size:=mP _ re;rw[mM]at this;rw[<- Gt];omega
      have q3:=holdv b cur _ u Js qv tm q1;refine⟨u,?_,Mr (w:=w) (λ_ h=>h) (λc sL=>oO w.drew _ (qf.mo _ (d1 _ _ _ sL)).2.1) _ u q2⟩;have qw:=(lV.1 q3).1;rw[nP (by simp;omega),nP (by simpa using qw)];simpa using q3
     refine⟨qf.pos,λy hy=>?_,by simp,λb rO=>?_,λg hg=>⟨(qf.mo g hg).1,by have:=(qf.mo g hg).2.1;simp;omega,λe=>by simp only[lX]at e;have:=(qf.mo g hg).2.1;omega⟩,hdp⟩
     ·rcases lz.1 hy with h|h
      ·simp only[Gt];exact rj y h
      ·simp only[Gt];exact⟨(rM y h).1,λc hc=>D3 ((rM y h).2 c hc)⟩
     ·simp only[lX]at rO;subst rO;refine⟨λhF=>absurd (hr.FR _ hF) (Nat.lt_irrefl _),_,by rw[wO];exact heap_alloc_new w.drew _,by simp only[Gt];exact e1,by simp only[mD,xp];exact tj,se,λi y hy j c hc=>?_⟩;obtain⟨u,f1,f2⟩:=e2 i y hy j c hc;exact⟨u,by simpa only[Gt] using f1,qk _ _ f2⟩)
    exact⟨this.1,this.2.1⟩
   have vr:∀cap,Ae F (w.drew.alloc (.cells #[] 0)) (os.set id ⟨⟨g+1,o.row.elem,o.row.size,o.row.xs.take n++ys⟩,some w.heap.size,cap,o.more⟩) (.own id (g+1) (n+ys.length)) (.slice (some ⟨w.heap.size,0,none⟩) (n+ys.length) cap):=λcap=>by
    simp only[Ae];exact⟨_,tl _,by simp,⟨_,_,_,rfl⟩,λ_=>⟨by simp only[mD,xp];omega,.inr ⟨_,rfl,(MM (o:=⟨⟨g+1,o.row.elem,o.row.size,o.row.xs.take n++ys⟩,some w.heap.size,_,o.more⟩) (by rw[mD,xp])).symm⟩⟩⟩
   have tz:=grownCap_ge w (n+ys.length);have wu:=ob w (n+ys.length);rcases hd with ⟨vJ,a0,rfl⟩|⟨b0,Js,rfl⟩
   ·have vT:=qf.none vJ;simp only[vT.1,nD,pS]at hnl;subst hnl;have rB:(Builtin.append_ #[t,t] ty #[.slice a0 0 0,.slice (some ⟨b,off,none⟩) ys.length c]).run P w=.ok (.slice (some ⟨w.heap.size,0,none⟩) (0+ys.length) (grownCap w (0+ys.length) 0 ei.e))
      (w.drew.alloc (.cells (([]:List Value).toArray++us.toArray++Builtin.zeroCells z.cells (grownCap w (0+ys.length) 0 ei.e-(0+ys.length))) ei.e)):=by
     cases a0 with
     | none=>
      have:=run_append_nil (P:=P) w t ty ei.e inf z hu hi hz ⟨b,off,none⟩ ys.length c us uJ rS (by omega) (by omega) (by rw[<- hby];rw[ml]at hb;omega);simpa using this
     | some a0=>
      have:=oX (P:=P) w t ty ei.e inf z hu hi hz a0 0 0 [] (by simp) (by simp) ⟨b,off,none⟩ ys.length c us uJ rS (by omega) (by omega) (oh (by omega) (by rw[<- hby];exact hb));simpa using this
    have vt:=hgen (grownCap w (0+ys.length) 0 ei.e) [] (by simp[Gj]) (λb cur k u hb=>by rw[vJ]at hb;cases hb) (tz 0 ei.e) (wu 0 ei.e (by simp[maxLen];omega));exact⟨_,_,_,_,_,hk,rB,vt.1,by simpa [Ae] using vr _,vt.2⟩
   ·obtain⟨vQ,cur,qv,sa,xT,vl,qy⟩:=qf.some b0 Js;by_cases hroom:n+ys.length<=o.cap
    ·have sD:n*inf.size+us.length<=cur.size:=by rw[uJ,sa,Gt,rC,<- mM];exact mP _ hroom
     have rB:=run_append_room (P:=P) w t ty ei.e inf hu hi b0 n o.cap cur (by rw[<- wO];exact qv) ⟨b,off,none⟩ ys.length c us uJ rS vq hroom sD;have yU:=hr.Pt (k:=k) (o':=⟨⟨g+1,o.row.elem,o.row.size,o.row.xs.take n++ys⟩,some b0,o.cap,o.more⟩) ho (w':=w.setRow b0 (cur.toList.take (n*inf.size)++us++cur.toList.drop (n*inf.size+us.length)).toArray) (by rw[Js];exact Hl.setRow _ _ _) (by simp[hg]) rfl (λe=>by simp[hg]at e) (λg hg=>by
       rcases hg with hg|hg
       ·simp only[lX]at hg;exact .inl (.inl (by rw[Js,hg]))
       ·exact .inl (.inr hg)) (λqk=>by
      have hdp:Kq (w.setRow b0 (cur.toList.take (n*inf.size)++us++cur.toList.drop (n*inf.size+us.length)).toArray) ⟨⟨g+1,o.row.elem,o.row.size,o.row.xs.take n++ys⟩,some b0,o.cap,o.more⟩:=by
       obtain⟨D,d1,d2,d3⟩:=qf.deep;refine⟨D,d1,d2,λb' rO uH el l rR i y j e s' zs hy hc=>?_⟩;simp only[lX]at rO hy⊢;subst rO;rw[pT w b0 cur _ _ _ qv]at rR;cases rR;have re:i<n:=by
        rcases nb i n with h|h
        ·exact h
        ·rw[ln (by omega)]at hy;have:=rM y (lT hy);have:=this.2 _ (lT hc);simp[AV.leaf]at this
       rw[lj (by omega),mJ,ld re]at hy;obtain⟨u,q1,q2⟩:=d3 b0 Js cur _ _ qv i y j e s' zs hy hc;have uG:j<o.row.size:=by rw[<- (qf.lens y (lT hy)).1];exact (lV.1 hc).1
       have tm:i*o.row.size+j<n*inf.size:=by
        have:(i+1)*o.row.size<=n*o.row.size:=mP _ re;rw[mM]at this;rw[<- rC,<- Gt];omega
       refine⟨u,?_,Mr (λ_ h=>h) (λc sL=>setRow_other w b0 c _ λe=>(qf.mo _ (d1 _ _ _ sL)).2.2 (by rw[Js,e])) _ u q2⟩;rw[KM sD,ld tm];exact q1
      refine⟨qf.pos,λy hy=>?_,by simp,λb rO=>?_,λg hg=>⟨(qf.mo g hg).1,by simpa using (qf.mo g hg).2.1,by rw[<- Js];exact (qf.mo g hg).2.2⟩,hdp⟩
      ·rcases lz.1 hy with h|h
       ·simp only[Gt];exact rj y h
       ·simp only[Gt];exact⟨(rM y h).1,λc hc=>D3 ((rM y h).2 c hc)⟩
      ·simp only[lX]at rO;subst rO;refine⟨vQ,_,pT w b0 cur _ _ _ qv,?_,by simp only[mD,xp];exact hroom,vl,λi y hy j c hc=>?_⟩
       ·simp only[oL,mD,nq,oE,nt]at sD⊢;rw[<- sa];omega
       ·simp only at hy⊢;rw[KM sD];by_cases re:i<n
        ·rw[lj (by omega),mJ,ld re]at hy;obtain⟨u,f1,f2⟩:=qy i y hy j c hc;have uG:j<o.row.size:=by rw[<- (qf.lens y (lT hy)).1];exact (lV.1 hc).1
         have:(i+1)*o.row.size<=n*o.row.size:=mP _ re;rw[mM]at this;refine⟨u,?_,qk _ _ f2⟩;rw[ld (by rw[<- rC,<- Gt];omega)];exact f1
        ·rw[ln (by omega),xp]at hy;obtain⟨u,f1,f2⟩:=hrep.2 _ y hy j c hc;refine⟨u,?_,qk _ _ f2⟩;have qw:=(lV.1 f1).1;have h3:n*o.row.size<=i*o.row.size:=mP _ (by omega);rw[Nat.sub_mul]at f1 qw;rw[<- Gt]at f1 qw;rw[la (by rw[<- rC,<- Gt];omega),ld (by rw[<- rC,<- Gt];omega),<- f1];congr 1;rw[<- rC,<- Gt];omega)
     refine⟨_,_,_,_,_,hk,rB,yU.1,?_,yU.2.1⟩;simp only[Ae];exact⟨_,tl _,by simp,⟨_,_,_,rfl⟩,λ_=>⟨by simp only[mD,xp];omega,.inr ⟨_,rfl,by simp[xV]⟩⟩⟩
    ·
     have hold:∀(i:Nat) y,(o.row.xs.take n)[i]?=some y->NB F w os b0 (0+i*ei.size) y:=λi y hy=>by
      rw[mJ]at hy;split at hy
      ·have:=hr.N9 ho Js hy;rw[Gt]at this;simpa using this
      ·cases hy
     obtain⟨rn,h1,h2,_,h4⟩:=QV (λx hx=>(rj x hx).1) hold;have rB:=oX (P:=P) w t ty ei.e inf z hu hi hz ⟨b0,0,none⟩ n o.cap rn (by rw[h1,xp,rC]) h2 ⟨b,off,none⟩ ys.length c us uJ rS (by omega) (by omega) (oh (by omega) (by rw[<- hby];exact hb));have vt:=hgen (grownCap w (n+ys.length) o.cap ei.e) rn ⟨h1,λi y hy j c hc=>by obtain⟨u,f1,_,f2⟩:=h4 i y hy j c hc;exact⟨u,f1,f2⟩⟩ (λb uH k u rO rR hk q=>by
      rw[Js]at rO;cases rO;rw[qv]at rR;cases rR;have tm:k<rn.length:=by rw[h1,xp];exact hk
      have:=h2 k _ (lZ tm);rw[DK,oc w b0 _ cur _ _ qv,ml,q]at this;rw[lZ tm,<- this]) (tz o.cap ei.e) (wu o.cap ei.e (by simp[maxLen];omega))
     exact⟨_,_,_,_,_,hk,rB,vt.1,by simpa [Ae] using vr _,vt.2⟩
 | _=>exact h.elim
end Go.Abs
