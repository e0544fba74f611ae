import Derived.Test.YtihdgoiebmfapaaGreatAbsE
set_option linter.all false
namespace Go.Abs
open Go
variable {P : Program} {F : Nat -> Prop} {os : List Own} {s : St} {a : Act} {w : World} {k : Nat}
def GU (F:Nat->Prop)(w:World)(os:List Own)(size:Nat)(us:List Value)(xs:List (List AV)):Prop:=
 us.length=xs.length*size/\∀(i:Nat) x,xs[i]?=some x->∀(j:Nat) c,x[j]?=some c->∃u,us[i*size+j]?=some u/\Ae F w os c u
theorem GU.nil {size:Nat}:GU F w os size [] []:=⟨by simp,by simp⟩
theorem GU.append {size:Nat}{us vs:List Value}{xs ys:List (List AV)}(h:GU F w os size us xs)(g:GU F w os size vs ys):GU F w os size (us++vs) (xs++ys):=by
 refine⟨by rw[gV,gV,h.1,g.1,gU],λi x hi j c hc=>?_⟩;by_cases lh:i<xs.length
 ·rw[ft lh]at hi;obtain⟨u,h1,h2⟩:=h.2 i x hi j c hc;exact⟨u,by rw[ft (fe.1 h1).1];exact h1,h2⟩
 ·rw[fw (by omega)]at hi;obtain⟨u,h1,h2⟩:=g.2 _ x hi j c hc;refine⟨u,?_,h2⟩;have:xs.length*size<=i*size:=gW _ (by omega);rw[fw (by rw[h.1];omega),<- h1,h.1];congr 1;rw[Nat.sub_mul];omega
theorem Rel.UU (hr:Rel F os s a w){e:TypeId}{size:Nat}(mH:0<size):
  let o:Own:=⟨⟨0,e,size,[]⟩,none,0,FP⟩
  Rel F (os++[o]) { s with st:=s.st++[o.row] } a w/\Ext F os w F (os++[o]) w k/\(∀x v,Ae F w os x v->Ae F w (os++[o]) x v):=by
 intro o;have lW:∀(i:Nat) (oi:Own),(os++[o])[i]?=some oi->os[i]?=some oi∨(i=os.length/\oi=o):=λi oi hi=>by
  rcases iH i os.length with h|h|h
  ·rw[ft h]at hi;exact .inl hi
  ·subst h;simp at hi;exact .inr ⟨rfl,hi.symm⟩
  ·rw[fw (by omega),hH (by simp;omega)]at hi;cases hi
 have:=hr.Vd (k:=k) (HN.refl w none) (by simp) (os':=os++[o]) (FF.append os [o]) (λi oi hi=>by
   rcases lW i oi hi with h|⟨_,rfl⟩
   ·exact .inl ⟨h,by simp⟩
   ·exact .inr ⟨mH,by simp[o],by simp[o],by simp[o],λg hg=>hg.elim,Ef (by simp[o])⟩)
  (λi j oi oj g hi hj pk pn=>by
   rcases lW i oi hi with h|⟨h,rfl⟩<;>rcases lW j oj hj with h'|⟨h',rfl⟩
   ·exact hr.inj i j oi oj g h h' pk pn
   ·simp[o,Own.owns,FP]at pn
   ·simp[o,Own.owns,FP]at pk
   ·omega)
  (λo' lz g hg=>by
   rcases gS.1 lz with h|h
   ·exact .inr ⟨o',h,hg⟩
   ·simp only[gB]at h;subst h;simp[o,Own.owns,FP]at hg)
  (by simp)
 refine⟨?_,this.2.1,this.2.2⟩;have h1:=this.1;rw[iD,hr.st]at h1;simpa using h1
theorem LK {t ty e:TypeId}{i:TypeInfo}(ht:P.underlying t=some (.slice e))(hi:P.info? e=some i)(base ad:Option Addr)(n cap c:Nat)(hn:n<=cap):
  (Builtin.append_ #[t,t] ty #[.slice base n cap,.slice ad 0 c]).run P w=.ok (.slice base n cap) w:=by
 have hf:(Builtin.firstCells i.size 0 (.slice ad 0 c)).run P w=.ok #[] w:=by
  cases ad<;>simp[Builtin.firstCells,loadCells,loadCellsFrom]
 cases base<;>simp[Builtin.append_,gy ht,sizeOf,typeInfo,hi,Builtin.lenOf,hn,hf,storeCells]
theorem JR {α:Type}(l:List α)(x:α):(l++[x])[l.length]?=some x:=by simp
theorem NW {size n m cap:Nat}{z:Value}(nz:z.cells.size=size){us vs:List Value}{xs ys:List (List AV)}(hxn:xs.length=n)(hyn:ys.length=m)
  (h:GU F w os size us xs) (g:GU F w os size vs ys) (oS:n+m<=cap) :
  (us.toArray++vs.toArray++Builtin.zeroCells z.cells (cap-(n+m))).size=cap*size/\
  ∀(i:Nat) x,(xs++ys)[i]?=some x->∀(j:Nat) c,x[j]?=some c->∃u,(us.toArray++vs.toArray++Builtin.zeroCells z.cells (cap-(n+m)))[i*size+j]?=some u/\Ae F w os c u:=by
 have qM:=GU.append h g;constructor
 ·simp only[Array.size_append,jL,size_zeroCells,nz,h.1,g.1,hxn,hyn,<- gU];congr 1;omega
 ·intro i x hi j c hc;obtain⟨u,h1,h2⟩:=qM.2 i x hi j c hc;refine⟨u,?_,h2⟩;have lh:=(fe.1 h1).1;rw[ic (by simpa using lh)];simpa using h1
theorem XH {t ty:TypeId}{d x:AV}{ud ux:Value}{K:AV->List Row->Prop}(hr:Rel F os s a w)(h:UM P s.st t d x K)(hd:Ae F w os d ud)(hx:Ae F w os x ux):
  He P k F os s a w (Builtin.append_ #[t,t] ty #[ud,ux]) K:=by
 obtain⟨ei,he,h⟩:=BK h;obtain⟨inf,z,hu,hi,hz,nz,mH,lr,hby,_,_⟩:=Ht he;obtain⟨ys,h,wF,pt,⟨ad,c,rfl,hsrc⟩⟩:=T9 hr h hx;have pt:∀y∈ys,∀c∈y,c.leaf=true:=by
  rcases pt with rfl|h
  ·simp
  ·exact h
 have qN:0<ys.length->∃b o,ad=some ⟨b,o,none⟩/\(∀y∈ys,y.length=ei.size/\∀c∈y,c.leaf=true)/\∃us:List Value,us.length=ys.length*inf.size/\(∀(j:Nat) u,us[j]?=some u->w.cell? ((⟨b,o,none⟩:Addr).add j)=some u)/\(∀u∈us,u.oneCell'=true)/\GU F w os ei.size us ys:=λhp=>by
  rcases hsrc with rfl|⟨b,o,rfl,hc⟩
  ·simp at hp
  ·obtain⟨us,h1,h2,h3,h4⟩:=PK wF hc;refine⟨b,o,rfl,λy hy=>⟨wF y hy,pt y hy⟩,us,by rw[h1,lr],h2,h3,h1,λi y hy j c hc=>?_⟩;obtain⟨u,e1,_,e2⟩:=h4 i y hy j c hc;exact⟨u,e1,e2⟩
 cases d with
 | zc=>
  obtain⟨hb,hm,hk⟩:=h;simp only[Ae]at hd;obtain⟨wa,rfl⟩:=hd;by_cases se:ys.length=0
  ·have sf:ys=[]:=gY se;subst sf;have:=hr.UU (k:=k) (e:=ei.e) (size:=ei.size) (by omega);refine⟨_,_,_,_,_,hk,LK hu hi wa ad 0 0 c (gA _),this.1,?_,this.2.1⟩;simp only[Ae];exact⟨⟨⟨0,ei.e,ei.size,[]⟩,none,0,FP⟩,by rw[hr.len];simp,by simp,⟨_,_,_,rfl⟩,λ_=>⟨by simp,.inl ⟨rfl,_,rfl⟩⟩⟩
  ·obtain⟨b,o,rfl,mD,us,oo,mJ,qU,hrep⟩:=qN (by omega);have ob:=grownCap_ge w ys.length 0 ei.e;have hle:=je w ys.length 0 ei.e (by simp[maxLen];omega);have ln:(Builtin.append_ #[t,t] ty #[.slice wa 0 0,.slice (some ⟨b,o,none⟩) ys.length c]).run P w=.ok (.slice (some ⟨w.heap.size,0,none⟩) ys.length (grownCap w ys.length 0 ei.e))
     (w.drew.alloc (.cells (([]:List Value).toArray++us.toArray++Builtin.zeroCells z.cells (grownCap w ys.length 0 ei.e-(0+ys.length))) ei.e)):=by
    cases wa with
    | none=>
     have:=run_append_nil (P:=P) w t ty ei.e inf z hu hi hz ⟨b,o,none⟩ ys.length c us oo mJ (by omega) (by omega) (by rw[<- hby];omega);simpa using this
    | some a0=>
     have:=ja (P:=P) w t ty ei.e inf z hu hi hz a0 0 0 [] (by simp) (by simp) ⟨b,o,none⟩ ys.length c us oo mJ (by omega) (by omega) (jl (by omega) (by rw[<- hby,iJ];exact hb));simpa using this
   obtain⟨e1,e2⟩:=NW (F:=F) (w:=w) (os:=os) (z:=z) (size:=ei.size) (n:=0) (m:=ys.length) (cap:=grownCap w ys.length 0 ei.e) (by rw[nz,lr]) (by rfl) rfl GU.nil hrep (by omega);have:=hr.NZ (k:=k) (.inr rfl) (cur:=_) (e:=ei.e) (size:=ei.size) (cap:=grownCap w ys.length 0 ei.e) (xs:=ys) (by omega) mD e1 ob hle (λi x hx j c hc=>e2 i x (by simpa using hx) j c hc);refine⟨_,_,_,_,_,hk,ln,this.1,?_,this.2.1⟩;simp only[Ae];exact⟨⟨⟨0,ei.e,ei.size,ys⟩,some w.heap.size,grownCap w ys.length 0 ei.e,FP⟩,by rw[hr.len];exact JR _ _,gA _,⟨_,_,_,rfl⟩,λ_=>⟨gA _,.inr ⟨_,rfl,by simp⟩⟩⟩
 | own id g n=>
  obtain⟨row,lQ,hg,rU,rV,GW,hb,hm,hk⟩:=BK h;obtain⟨o,ho,rfl⟩:=hr.row lQ;simp only[Ae]at hd;obtain⟨o',lz,ob,_,hd⟩:=hd;rw[ho]at lz;cases lz;obtain⟨th,hd⟩:=hd hg;simp only[LX rU]at hd;have lU:=hr.rows id o ho;have rl:(o.row.xs.take n).length=n:=by simp;omega
  have oU:∀o':Own,(os.set id o')[id]?=some o':=λo'=>fv (fe.1 ho).1;have mU:∀x∈o.row.xs.take n,x.length=ei.size/\∀c∈x,c.kept=true:=λx hx=>by
   have:=lU.lens x (hX hx);rw[GW]at this;exact this
  by_cases se:ys.length=0
  ·have sf:ys=[]:=gY se;subst sf;have nK:=hr.Ov (k:=k) (o':={ o with row:={ o.row with gen:=g+1,xs:=o.row.xs.take n++[] } }) ho (w':=w) (HN.refl w _) (by simp[hg]) rfl (λe=>by simp[hg]at e) (λg hg=>.inl hg) (λlY=>by
    refine⟨lU.pos,λy hy=>?_,λhn=>?_,λb mE=>?_,lU.mo,lU.deep.keep rfl (λ_ h=>h) rfl (λ_ _=>rfl) (λi x j e s ys hx hc=>by
     simp only[iK,gR]at hx;split at hx
     ·exact⟨x,hx,hc⟩
     ·cases hx)⟩
    ·simp only[iK]at hy;exact lU.lens y (hX hy)
    ·have:=lU.none hn;simp[this.1,this.2]
    ·obtain⟨h1,cur,h2,h3,h4,h5,h6⟩:=lU.some b mE;refine⟨h1,cur,h2,h3,by simp;omega,h5,λi y hy j c hc=>?_⟩;simp only[iK,gR]at hy;split at hy
     ·obtain⟨u,e1,e2⟩:=h6 i y hy j c hc;exact⟨u,e1,lY _ _ e2⟩
     ·cases hy)
   have rm:∃base cp,ud=.slice base n cp/\n<=cp/\((o.Fa=none/\ud=.slice base n 0)∨∃b,o.Fa=some b/\ud=.slice (some ⟨b,0,none⟩) n o.cap):=by
    rcases hd with ⟨pb,a0,rfl⟩|⟨b,JH,rfl⟩
    ·have:=lU.none pb;simp only[this.1,iM,kD]at th;exact⟨a0,0,rfl,by omega,.inl ⟨pb,rfl⟩⟩
    ·obtain⟨_,_,_,_,h4,_⟩:=lU.some b JH;exact⟨_,o.cap,rfl,by omega,.inr ⟨b,JH,rfl⟩⟩
   obtain⟨base,cp,rfl,hncp,hv⟩:=rm;refine⟨_,_,_,_,_,hk,LK hu hi base ad n cp c hncp,nK.1,?_,nK.2.1⟩;simp only[Ae];refine⟨_,oU _,by simp,⟨_,_,_,rfl⟩,λ_=>⟨by simp;omega,?_⟩⟩;rcases hv with ⟨pb,hv⟩|⟨b,JH,hv⟩
   ·exact .inl ⟨pb,base,by simpa using hv⟩
   ·have hz:min n o.row.xs.length-n=0:=by omega
    exact .inr ⟨b,JH,by simpa [hz] using hv⟩
  ·obtain⟨b,off,rfl,mD,us,oo,mJ,qU,hrep⟩:=qN (by omega);have uS:∀(cap:Nat) (mW:List Value),GU F w os ei.size mW (o.row.xs.take n)->(∀(b:Nat) (cur:Array Value) (k:Nat) (u:Value),o.Fa=some b->w.heap[b]?=some (.cells cur o.row.elem (0,0))->k<n*ei.size->cur[k]?=some u->mW[k]?=some u)->n+ys.length<=cap->cap<=maxLen->
     Rel F (os.set id ⟨⟨g+1,o.row.elem,o.row.size,o.row.xs.take n++ys⟩,some w.heap.size,cap,o.more⟩) { s with st:=s.st.set id ⟨g+1,o.row.elem,o.row.size,o.row.xs.take n++ys⟩ } a (w.drew.alloc (.cells (mW.toArray++us.toArray++Builtin.zeroCells z.cells (cap-(n+ys.length))) ei.e))/\
     Ext F os w F (os.set id ⟨⟨g+1,o.row.elem,o.row.size,o.row.xs.take n++ys⟩,some w.heap.size,cap,o.more⟩) (w.drew.alloc (.cells (mW.toArray++us.toArray++Builtin.zeroCells z.cells (cap-(n+ys.length))) ei.e)) k:=λcap mW hold uT oS nU=>by
    obtain⟨e1,e2⟩:=NW (F:=F) (w:=w) (os:=os) (z:=z) (size:=ei.size) (n:=n) (m:=ys.length) (cap:=cap) (by rw[nz,lr]) rl rfl hold hrep oS;have:=hr.Ov (k:=k) (o':=⟨⟨g+1,o.row.elem,o.row.size,o.row.xs.take n++ys⟩,some w.heap.size,cap,o.more⟩) ho (w':=w.drew.alloc (.cells (mW.toArray++us.toArray++Builtin.zeroCells z.cells (cap-(n+ys.length))) ei.e)) (Lf _ _ _) (by simp[hg]) rfl (λe=>by simp[hg]at e) (λg hg=>by
      rcases hg with hg|hg
      ·simp only[ff]at hg;exact .inr (by omega)
      ·exact .inl (.inr hg)) (λlY=>by
     have uQ:J2 (w.drew.alloc (.cells (mW.toArray++us.toArray++Builtin.zeroCells z.cells (cap-(n+ys.length))) ei.e)) ⟨⟨g+1,o.row.elem,o.row.size,o.row.xs.take n++ys⟩,some w.heap.size,cap,o.more⟩:=by
      obtain⟨D,d1,d2,d3⟩:=lU.deep;refine⟨D,d1,d2,λb' mE om el l mI i y j e s' zs hy hc=>?_⟩;simp only[ff]at mE hy⊢;subst mE;have rC:=heap_alloc_new w.drew (.cells (mW.toArray++us.toArray++Builtin.zeroCells z.cells (cap-(n+ys.length))) ei.e);have si:some (Obj.cells (mW.toArray++us.toArray++Builtin.zeroCells z.cells (cap-(n+ys.length))) ei.e)=some (.cells om el l):=rC.symm.trans mI;cases si;have mX:i<n:=by
       rcases iY i n with h|h
       ·exact h
       ·rw[fw (by omega)]at hy;have:=mD y (fc hy);have:=this.2 _ (fc hc);simp[AV.leaf]at this
      rw[ft (by omega),gR,fq mX]at hy;have JH:∃b,o.Fa=some b:=by
       cases hbk:o.Fa with
       | none=>have:=(lU.none hbk).1;rw[this]at hy;simp at hy
       | some b=>exact⟨b,rfl⟩
      obtain⟨b,JH⟩:=JH;obtain⟨_,cur,lj,_⟩:=lU.some b JH;obtain⟨u,q1,q2⟩:=d3 b JH cur _ _ lj i y j e s' zs hy hc;have oh:j<o.row.size:=by rw[<- (lU.lens y (fc hy)).1];exact (fe.1 hc).1
      have ot:i*o.row.size+j<n*ei.size:=by
       have:(i+1)*o.row.size<=n*o.row.size:=gW _ mX;rw[gU]at this;rw[<- GW];omega
      have q3:=uT b cur _ u JH lj ot q1;refine⟨u,?_,Lu (w:=w) (λ_ h=>h) (λc mq=>heap_alloc_old w.drew _ (lU.mo _ (d1 _ _ _ mq)).2.1) _ u q2⟩;have lh:=(fe.1 q3).1;rw[ic (by simp;omega),ic (by simpa using lh)];simpa using q3
     refine⟨lU.pos,λy hy=>?_,by simp,λb mE=>?_,λg hg=>⟨(lU.mo g hg).1,by have:=(lU.mo g hg).2.1;simp;omega,λe=>by simp only[ff]at e;have:=(lU.mo g hg).2.1;omega⟩,uQ⟩
     ·rcases gS.1 hy with h|h
      ·simp only[GW];exact mU y h
      ·simp only[GW];exact⟨(mD y h).1,λc hc=>Dr ((mD y h).2 c hc)⟩
     ·simp only[ff]at mE;subst mE;refine⟨λhF=>absurd (hr.GG _ hF) (Nat.lt_irrefl _),_,by rw[rV];exact heap_alloc_new w.drew _,by simp only[GW];exact e1,by simp only[gV,rl];exact oS,nU,λi y hy j c hc=>?_⟩;obtain⟨u,f1,f2⟩:=e2 i y hy j c hc;exact⟨u,by simpa only[GW] using f1,lY _ _ f2⟩)
    exact⟨this.1,this.2.1⟩
   have qV:∀cap,Ae F (w.drew.alloc (.cells #[] 0)) (os.set id ⟨⟨g+1,o.row.elem,o.row.size,o.row.xs.take n++ys⟩,some w.heap.size,cap,o.more⟩) (.own id (g+1) (n+ys.length)) (.slice (some ⟨w.heap.size,0,none⟩) (n+ys.length) cap):=λcap=>by
    simp only[Ae];exact⟨_,oU _,by simp,⟨_,_,_,rfl⟩,λ_=>⟨by simp only[gV,rl];omega,.inr ⟨_,rfl,(LX (o:=⟨⟨g+1,o.row.elem,o.row.size,o.row.xs.take n++ys⟩,some w.heap.size,_,o.more⟩) (by rw[gV,rl])).symm⟩⟩⟩
   have ob:=grownCap_ge w (n+ys.length);have rD:=je w (n+ys.length);rcases hd with ⟨pb,a0,rfl⟩|⟨b0,JH,rfl⟩
   ·have pw:=lU.none pb;simp only[pw.1,iM,kD]at th;subst th;have ln:(Builtin.append_ #[t,t] ty #[.slice a0 0 0,.slice (some ⟨b,off,none⟩) ys.length c]).run P w=.ok (.slice (some ⟨w.heap.size,0,none⟩) (0+ys.length) (grownCap w (0+ys.length) 0 ei.e))
      (w.drew.alloc (.cells (([]:List Value).toArray++us.toArray++Builtin.zeroCells z.cells (grownCap w (0+ys.length) 0 ei.e-(0+ys.length))) ei.e)):=by
     cases a0 with
     | none=>
      have:=run_append_nil (P:=P) w t ty ei.e inf z hu hi hz ⟨b,off,none⟩ ys.length c us oo mJ (by omega) (by omega) (by rw[<- hby];rw[iJ]at hb;omega);simpa using this
     | some a0=>
      have:=ja (P:=P) w t ty ei.e inf z hu hi hz a0 0 0 [] (by simp) (by simp) ⟨b,off,none⟩ ys.length c us oo mJ (by omega) (by omega) (jl (by omega) (by rw[<- hby];exact hb));simpa using this
    have qW:=uS (grownCap w (0+ys.length) 0 ei.e) [] (by simp[GU]) (λb cur k u hb=>by rw[pb]at hb;cases hb) (ob 0 ei.e) (rD 0 ei.e (by simp[maxLen];omega));exact⟨_,_,_,_,_,hk,ln,qW.1,by simpa [Ae] using qV _,qW.2⟩
   ·obtain⟨po,cur,lj,nP,qm,qO,lk⟩:=lU.some b0 JH;by_cases hroom:n+ys.length<=o.cap
    ·have mr:n*inf.size+us.length<=cur.size:=by rw[oo,nP,GW,lr,<- gU];exact gW _ hroom
     have ln:=run_append_room (P:=P) w t ty ei.e inf hu hi b0 n o.cap cur (by rw[<- rV];exact lj) ⟨b,off,none⟩ ys.length c us oo mJ qU hroom mr;have sM:=hr.Ov (k:=k) (o':=⟨⟨g+1,o.row.elem,o.row.size,o.row.xs.take n++ys⟩,some b0,o.cap,o.more⟩) ho (w':=w.setRow b0 (cur.toList.take (n*inf.size)++us++cur.toList.drop (n*inf.size+us.length)).toArray) (by rw[JH];exact HN.setRow _ _ _) (by simp[hg]) rfl (λe=>by simp[hg]at e) (λg hg=>by
       rcases hg with hg|hg
       ·simp only[ff]at hg;exact .inl (.inl (by rw[JH,hg]))
       ·exact .inl (.inr hg)) (λlY=>by
      have uQ:J2 (w.setRow b0 (cur.toList.take (n*inf.size)++us++cur.toList.drop (n*inf.size+us.length)).toArray) ⟨⟨g+1,o.row.elem,o.row.size,o.row.xs.take n++ys⟩,some b0,o.cap,o.more⟩:=by
       obtain⟨D,d1,d2,d3⟩:=lU.deep;refine⟨D,d1,d2,λb' mE om el l mI i y j e s' zs hy hc=>?_⟩;simp only[ff]at mE hy⊢;subst mE;rw[kE w b0 cur _ _ _ lj]at mI;cases mI;have mX:i<n:=by
        rcases iY i n with h|h
        ·exact h
        ·rw[fw (by omega)]at hy;have:=mD y (fc hy);have:=this.2 _ (fc hc);simp[AV.leaf]at this
       rw[ft (by omega),gR,fq mX]at hy;obtain⟨u,q1,q2⟩:=d3 b0 JH cur _ _ lj i y j e s' zs hy hc;have oh:j<o.row.size:=by rw[<- (lU.lens y (fc hy)).1];exact (fe.1 hc).1
       have ot:i*o.row.size+j<n*inf.size:=by
        have:(i+1)*o.row.size<=n*o.row.size:=gW _ mX;rw[gU]at this;rw[<- lr,<- GW];omega
       refine⟨u,?_,Lu (λ_ h=>h) (λc mq=>setRow_other w b0 c _ λe=>(lU.mo _ (d1 _ _ _ mq)).2.2 (by rw[JH,e])) _ u q2⟩;rw[Jj mr,fq ot];exact q1
      refine⟨lU.pos,λy hy=>?_,by simp,λb mE=>?_,λg hg=>⟨(lU.mo g hg).1,by simpa using (lU.mo g hg).2.1,by rw[<- JH];exact (lU.mo g hg).2.2⟩,uQ⟩
      ·rcases gS.1 hy with h|h
       ·simp only[GW];exact mU y h
       ·simp only[GW];exact⟨(mD y h).1,λc hc=>Dr ((mD y h).2 c hc)⟩
      ·simp only[ff]at mE;subst mE;refine⟨po,_,kE w b0 cur _ _ _ lj,?_,by simp only[gV,rl];exact hroom,qO,λi y hy j c hc=>?_⟩
       ·simp only[jL,gV,iz,jH,iw]at mr⊢;rw[<- nP];omega
       ·simp only at hy⊢;rw[Jj mr];by_cases mX:i<n
        ·rw[ft (by omega),gR,fq mX]at hy;obtain⟨u,f1,f2⟩:=lk i y hy j c hc;have oh:j<o.row.size:=by rw[<- (lU.lens y (fc hy)).1];exact (fe.1 hc).1
         have:(i+1)*o.row.size<=n*o.row.size:=gW _ mX;rw[gU]at this;refine⟨u,?_,lY _ _ f2⟩;rw[fq (by rw[<- lr,<- GW];omega)];exact f1
        ·rw[fw (by omega),rl]at hy;obtain⟨u,f1,f2⟩:=hrep.2 _ y hy j c hc;refine⟨u,?_,lY _ _ f2⟩;have lh:=(fe.1 f1).1;have h3:n*o.row.size<=i*o.row.size:=gW _ (by omega);rw[Nat.sub_mul]at f1 lh;rw[<- GW]at f1 lh;rw[fr (by rw[<- lr,<- GW];omega),fq (by rw[<- lr,<- GW];omega),<- f1];congr 1;rw[<- lr,<- GW];omega)
     refine⟨_,_,_,_,_,hk,ln,sM.1,?_,sM.2.1⟩;simp only[Ae];exact⟨_,oU _,by simp,⟨_,_,_,rfl⟩,λ_=>⟨by simp only[gV,rl];omega,.inr ⟨_,rfl,by simp[rU]⟩⟩⟩
    ·
     have hold:∀(i:Nat) y,(o.row.xs.take n)[i]?=some y->Ln F w os b0 (0+i*ei.size) y:=λi y hy=>by
      rw[gR]at hy;split at hy
      ·have:=hr.PQ ho JH hy;rw[GW]at this;simpa using this
      ·cases hy
     obtain⟨mW,h1,h2,_,h4⟩:=PK (λx hx=>(mU x hx).1) hold;have ln:=ja (P:=P) w t ty ei.e inf z hu hi hz ⟨b0,0,none⟩ n o.cap mW (by rw[h1,rl,lr]) h2 ⟨b,off,none⟩ ys.length c us oo mJ (by omega) (by omega) (jl (by omega) (by rw[<- hby];exact hb));have qW:=uS (grownCap w (n+ys.length) o.cap ei.e) mW ⟨h1,λi y hy j c hc=>by obtain⟨u,f1,_,f2⟩:=h4 i y hy j c hc;exact⟨u,f1,f2⟩⟩ (λb om k u mE mI hk q=>by
      rw[JH]at mE;cases mE;rw[lj]at mI;cases mI;have ot:k<mW.length:=by rw[h1,rl];exact hk
      have:=h2 k _ (fm ot);rw[Cy,jf w b0 _ cur _ _ lj,iJ,q]at this;rw[fm ot,<- this]) (ob o.cap ei.e) (rD o.cap ei.e (by simp[maxLen];omega))
     exact⟨_,_,_,_,_,hk,ln,qW.1,by simpa [Ae] using qV _,qW.2⟩
 | _=>exact h.elim
end Go.Abs
