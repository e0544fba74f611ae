import Derived.Test.YtihdgoiebmfapaaGreatAbsE
set_option linter.all false
namespace Go.Abs
open Go
variable {P : Program} {F : Nat -> Prop} {os : List Own} {s : St} {a : Act} {w : World} {k : Nat}
def GZ (F:Nat->Prop)(w:World)(os:List Own)(size:Nat)(us:List Value)(xs:List (List AV)):Prop:=
 us.length=xs.length*size/\∀(i:Nat) x,xs[i]?=some x->∀(j:Nat) c,x[j]?=some c->∃u,us[i*size+j]?=some u/\Ae F w os c u
theorem GZ.nil {size:Nat}:GZ F w os size [] []:=⟨by simp,by simp⟩
theorem GZ.append {size:Nat}{us vs:List Value}{xs ys:List (List AV)}(h:GZ F w os size us xs)(g:GZ F w os size vs ys):GZ F w os size (us++vs) (xs++ys):=by
 refine⟨by rw[kD,kD,h.1,g.1,kP],λi x hi j c hc=>?_⟩;by_cases pG:i<xs.length
 ·rw[jr pG]at hi;obtain⟨u,h1,h2⟩:=h.2 i x hi j c hc;exact⟨u,by rw[jr (jg.1 h1).1];exact h1,h2⟩
 ·rw[jt (by omega)]at hi;obtain⟨u,h1,h2⟩:=g.2 _ x hi j c hc;refine⟨u,?_,h2⟩;have:xs.length*size<=i*size:=kS _ (by omega);rw[jt (by rw[h.1];omega),<- h1,h.1];congr 1;rw[Nat.sub_mul];omega
theorem Rel.Vm (hr:Rel F os s a w){e:TypeId}{size:Nat}(pZ:0<size):
  let o:Own:=⟨⟨0,e,size,[]⟩,none,0,FX⟩
  Rel F (os++[o]) { s with st:=s.st++[o.row] } a w/\Ext F os w F (os++[o]) w k/\(∀x v,Ae F w os x v->Ae F w (os++[o]) x v):=by
 intro o;have oe:∀(i:Nat) (oi:Own),(os++[o])[i]?=some oi->os[i]?=some oi∨(i=os.length/\oi=o):=λi oi hi=>by
  rcases lH i os.length with h|h|h
  ·rw[jr h]at hi;exact .inl hi
  ·subst h;simp at hi;exact .inr ⟨rfl,hi.symm⟩
  ·rw[jt (by omega),kq (by simp;omega)]at hi;cases hi
 have:=hr.Wq (k:=k) (Hb.refl w none) (by simp) (os':=os++[o]) (FH.append os [o]) (λi oi hi=>by
   rcases oe i oi hi with h|⟨_,rfl⟩
   ·exact .inl ⟨h,by simp⟩
   ·exact .inr ⟨pZ,by simp[o],by simp[o],by simp[o],λg hg=>hg.elim,Er (by simp[o])⟩)
  (λi j oi oj g hi hj tF tG=>by
   rcases oe i oi hi with h|⟨h,rfl⟩<;>rcases oe j oj hj with h'|⟨h',rfl⟩
   ·exact hr.inj i j oi oj g h h' tF tG
   ·simp[o,Own.owns,FX]at tG
   ·simp[o,Own.owns,FX]at tF
   ·omega)
  (λo' pQ g hg=>by
   rcases kJ.1 pQ with h|h
   ·exact .inr ⟨o',h,hg⟩
   ·simp only[jy]at h;subst h;simp[o,Own.owns,FX]at hg)
  (by simp)
 refine⟨?_,this.2.1,this.2.2⟩;have h1:=this.1;rw[lJ,hr.st]at h1;simpa using h1
theorem Li {t ty e:TypeId}{i:TypeInfo}(ht:P.underlying t=some (.slice e))(hi:P.info? e=some i)(base ad:Option Addr)(n cap c:Nat)(hn:n<=cap):
  (Builtin.append_ #[t,t] ty #[.slice base n cap,.slice ad 0 c]).run P w=.ok (.slice base n cap) w:=by
 have hf:(Builtin.firstCells i.size 0 (.slice ad 0 c)).run P w=.ok #[] w:=by
  cases ad<;>simp[Builtin.firstCells,loadCells,loadCellsFrom]
 cases base<;>simp[Builtin.append_,kg ht,sizeOf,typeInfo,hi,Builtin.lenOf,hn,hf,storeCells]
theorem Jg {α:Type}(l:List α)(x:α):(l++[x])[l.length]?=some x:=by simp
theorem OU {size n m cap:Nat}{z:Value}(rQ:z.cells.size=size){us vs:List Value}{xs ys:List (List AV)}(hxn:xs.length=n)(hyn:ys.length=m)
  (h:GZ F w os size us xs) (g:GZ F w os size vs ys) (rj:n+m<=cap) :
  (us.toArray++vs.toArray++Builtin.zeroCells z.cells (cap-(n+m))).size=cap*size/\
  ∀(i:Nat) x,(xs++ys)[i]?=some x->∀(j:Nat) c,x[j]?=some c->∃u,(us.toArray++vs.toArray++Builtin.zeroCells z.cells (cap-(n+m)))[i*size+j]?=some u/\Ae F w os c u:=by
 have sH:=GZ.append h g;constructor
 ·simp only[Array.size_append,mO,size_zeroCells,rQ,h.1,g.1,hxn,hyn,<- kP];congr 1;omega
 ·intro i x hi j c hc;obtain⟨u,h1,h2⟩:=sH.2 i x hi j c hc;refine⟨u,?_,h2⟩;have pG:=(jg.1 h1).1;rw[lP (by simpa using pG)];simpa using h1
theorem YR {t ty:TypeId}{d x:AV}{ud ux:Value}{K:AV->List Row->Prop}(hr:Rel F os s a w)(h:VE P s.st t d x K)(hd:Ae F w os d ud)(hx:Ae F w os x ux):
  Hr P k F os s a w (Builtin.append_ #[t,t] ty #[ud,ux]) K:=by
 obtain⟨ei,he,h⟩:=BN h;obtain⟨inf,z,hu,hi,hz,rQ,pZ,pL,hby,_,_⟩:=H8 he;obtain⟨ys,h,hys,tJ,⟨ad,c,rfl,hsrc⟩⟩:=Ud hr h hx;have tJ:∀y∈ys,∀c∈y,c.leaf=true:=by
  rcases tJ with rfl|h
  ·simp
  ·exact h
 have ta:0<ys.length->∃b o,ad=some ⟨b,o,none⟩/\(∀y∈ys,y.length=ei.size/\∀c∈y,c.leaf=true)/\∃us:List Value,us.length=ys.length*inf.size/\(∀(j:Nat) u,us[j]?=some u->w.cell? ((⟨b,o,none⟩:Addr).add j)=some u)/\(∀u∈us,u.oneCell'=true)/\GZ F w os ei.size us ys:=λhp=>by
  rcases hsrc with rfl|⟨b,o,rfl,hc⟩
  ·simp at hp
  ·obtain⟨us,h1,h2,h3,h4⟩:=Pr hys hc;refine⟨b,o,rfl,λy hy=>⟨hys y hy,tJ y hy⟩,us,by rw[h1,pL],h2,h3,h1,λi y hy j c hc=>?_⟩;obtain⟨u,e1,_,e2⟩:=h4 i y hy j c hc;exact⟨u,e1,e2⟩
 cases d with
 | zc=>
  obtain⟨hb,hm,hk⟩:=h;simp only[Ae]at hd;obtain⟨ad0,rfl⟩:=hd;by_cases wy:ys.length=0
  ·have wz:ys=[]:=ka wy;subst wz;have:=hr.Vm (k:=k) (e:=ei.e) (size:=ei.size) (by omega);refine⟨_,_,_,_,_,hk,Li hu hi ad0 ad 0 0 c (jv _),this.1,?_,this.2.1⟩;simp only[Ae];exact⟨⟨⟨0,ei.e,ei.size,[]⟩,none,0,FX⟩,by rw[hr.len];simp,by simp,⟨_,_,_,rfl⟩,λ_=>⟨by simp,.inl ⟨rfl,_,rfl⟩⟩⟩
  ·obtain⟨b,o,rfl,pV,us,sI,pb,tl,hrep⟩:=ta (by omega);have rz:=grownCap_ge w ys.length 0 ei.e;have hle:=mh w ys.length 0 ei.e (by simp[maxLen];omega);have pK:(Builtin.append_ #[t,t] ty #[.slice ad0 0 0,.slice (some ⟨b,o,none⟩) ys.length c]).run P w=.ok (.slice (some ⟨w.heap.size,0,none⟩) ys.length (grownCap w ys.length 0 ei.e))
     (w.drew.alloc (.cells (([]:List Value).toArray++us.toArray++Builtin.zeroCells z.cells (grownCap w ys.length 0 ei.e-(0+ys.length))) ei.e)):=by
    cases ad0 with
    | none=>
     have:=run_append_nil (P:=P) w t ty ei.e inf z hu hi hz ⟨b,o,none⟩ ys.length c us sI pb (by omega) (by omega) (by rw[<- hby];omega);simpa using this
    | some a0=>
     have:=mc (P:=P) w t ty ei.e inf z hu hi hz a0 0 0 [] (by simp) (by simp) ⟨b,o,none⟩ ys.length c us sI pb (by omega) (by omega) (mr (by omega) (by rw[<- hby,kt];exact hb));simpa using this
   obtain⟨e1,e2⟩:=OU (F:=F) (w:=w) (os:=os) (z:=z) (size:=ei.size) (n:=0) (m:=ys.length) (cap:=grownCap w ys.length 0 ei.e) (by rw[rQ,pL]) (by rfl) rfl GZ.nil hrep (by omega);have:=hr.OQ (k:=k) (.inr rfl) (cur:=_) (e:=ei.e) (size:=ei.size) (cap:=grownCap w ys.length 0 ei.e) (xs:=ys) (by omega) pV e1 rz hle (λi x hx j c hc=>e2 i x (by simpa using hx) j c hc);refine⟨_,_,_,_,_,hk,pK,this.1,?_,this.2.1⟩;simp only[Ae];exact⟨⟨⟨0,ei.e,ei.size,ys⟩,some w.heap.size,grownCap w ys.length 0 ei.e,FX⟩,by rw[hr.len];exact Jg _ _,jv _,⟨_,_,_,rfl⟩,λ_=>⟨jv _,.inr ⟨_,rfl,by simp⟩⟩⟩
 | own id g n=>
  obtain⟨row,oY,hg,vY,uM,Gh,hb,hm,hk⟩:=BN h;obtain⟨o,ho,rfl⟩:=hr.row oY;simp only[Ae]at hd;obtain⟨o',pQ,rz,_,hd⟩:=hd;rw[ho]at pQ;cases pQ;obtain⟨yC,hd⟩:=hd hg;simp only[L4 vY]at hd;have ob:=hr.rows id o ho;have vq:(o.row.xs.take n).length=n:=by simp;omega
  have rm:∀o':Own,(os.set id o')[id]?=some o':=λo'=>ju (jg.1 ho).1;have px:∀x∈o.row.xs.take n,x.length=ei.size/\∀c∈x,c.kept=true:=λx hx=>by
   have:=ob.lens x (kv hx);rw[Gh]at this;exact this
  by_cases wy:ys.length=0
  ·have wz:ys=[]:=ka wy;subst wz;have qc:=hr.Oz (k:=k) (o':={ o with row:={ o.row with gen:=g+1,xs:=o.row.xs.take n++[] } }) ho (w':=w) (Hb.refl w _) (by simp[hg]) rfl (λe=>by simp[hg]at e) (λg hg=>.inl hg) (λoh=>by
    refine⟨ob.pos,λy hy=>?_,λhn=>?_,λb pX=>?_,ob.mo,ob.deep.keep rfl (λ_ h=>h) rfl (λ_ _=>rfl) (λi x j e s ys hx hc=>by
     simp only[ky,kL]at hx;split at hx
     ·exact⟨x,hx,hc⟩
     ·cases hx)⟩
    ·simp only[ky]at hy;exact ob.lens y (kv hy)
    ·have:=ob.none hn;simp[this.1,this.2]
    ·obtain⟨h1,cur,h2,h3,h4,h5,h6⟩:=ob.some b pX;refine⟨h1,cur,h2,h3,by simp;omega,h5,λi y hy j c hc=>?_⟩;simp only[ky,kL]at hy;split at hy
     ·obtain⟨u,e1,e2⟩:=h6 i y hy j c hc;exact⟨u,e1,oh _ _ e2⟩
     ·cases hy)
   have vr:∃base cp,ud=.slice base n cp/\n<=cp/\((o.Fe=none/\ud=.slice base n 0)∨∃b,o.Fe=some b/\ud=.slice (some ⟨b,0,none⟩) n o.cap):=by
    rcases hd with ⟨tA,a0,rfl⟩|⟨b,Je,rfl⟩
    ·have:=ob.none tA;simp only[this.1,lE,nR]at yC;exact⟨a0,0,rfl,by omega,.inl ⟨tA,rfl⟩⟩
    ·obtain⟨_,_,_,_,h4,_⟩:=ob.some b Je;exact⟨_,o.cap,rfl,by omega,.inr ⟨b,Je,rfl⟩⟩
   obtain⟨base,cp,rfl,hncp,hv⟩:=vr;refine⟨_,_,_,_,_,hk,Li hu hi base ad n cp c hncp,qc.1,?_,qc.2.1⟩;simp only[Ae];refine⟨_,rm _,by simp,⟨_,_,_,rfl⟩,λ_=>⟨by simp;omega,?_⟩⟩;rcases hv with ⟨tA,hv⟩|⟨b,Je,hv⟩
   ·exact .inl ⟨tA,base,by simpa using hv⟩
   ·have hz:min n o.row.xs.length-n=0:=by omega
    exact .inr ⟨b,Je,by simpa [hz] using hv⟩
  ·obtain⟨b,off,rfl,pV,us,sI,pb,tl,hrep⟩:=ta (by omega);have ye:∀(cap:Nat) (pz:List Value),GZ F w os ei.size pz (o.row.xs.take n)->(∀(b:Nat) (cur:Array Value) (k:Nat) (u:Value),o.Fe=some b->w.heap[b]?=some (.cells cur o.row.elem (0,0))->k<n*ei.size->cur[k]?=some u->pz[k]?=some u)->n+ys.length<=cap->cap<=maxLen->
     Rel F (os.set id ⟨⟨g+1,o.row.elem,o.row.size,o.row.xs.take n++ys⟩,some w.heap.size,cap,o.more⟩) { s with st:=s.st.set id ⟨g+1,o.row.elem,o.row.size,o.row.xs.take n++ys⟩ } a (w.drew.alloc (.cells (pz.toArray++us.toArray++Builtin.zeroCells z.cells (cap-(n+ys.length))) ei.e))/\
     Ext F os w F (os.set id ⟨⟨g+1,o.row.elem,o.row.size,o.row.xs.take n++ys⟩,some w.heap.size,cap,o.more⟩) (w.drew.alloc (.cells (pz.toArray++us.toArray++Builtin.zeroCells z.cells (cap-(n+ys.length))) ei.e)) k:=λcap pz hold yh rj qn=>by
    obtain⟨e1,e2⟩:=OU (F:=F) (w:=w) (os:=os) (z:=z) (size:=ei.size) (n:=n) (m:=ys.length) (cap:=cap) (by rw[rQ,pL]) vq rfl hold hrep rj;have:=hr.Oz (k:=k) (o':=⟨⟨g+1,o.row.elem,o.row.size,o.row.xs.take n++ys⟩,some w.heap.size,cap,o.more⟩) ho (w':=w.drew.alloc (.cells (pz.toArray++us.toArray++Builtin.zeroCells z.cells (cap-(n+ys.length))) ei.e)) (MX _ _ _) (by simp[hg]) rfl (λe=>by simp[hg]at e) (λg hg=>by
      rcases hg with hg|hg
      ·simp only[jh]at hg;exact .inr (by omega)
      ·exact .inl (.inr hg)) (λoh=>by
     have yb:KH (w.drew.alloc (.cells (pz.toArray++us.toArray++Builtin.zeroCells z.cells (cap-(n+ys.length))) ei.e)) ⟨⟨g+1,o.row.elem,o.row.size,o.row.xs.take n++ys⟩,some w.heap.size,cap,o.more⟩:=by
      obtain⟨D,d1,d2,d3⟩:=ob.deep;refine⟨D,d1,d2,λb' pX sG el l pa i y j e s' zs hy hc=>?_⟩;simp only[jh]at pX hy⊢;subst pX;have uq:=heap_alloc_new w.drew (.cells (pz.toArray++us.toArray++Builtin.zeroCells z.cells (cap-(n+ys.length))) ei.e);have xA:some (Obj.cells (pz.toArray++us.toArray++Builtin.zeroCells z.cells (cap-(n+ys.length))) ei.e)=some (.cells sG el l):=uq.symm.trans pa;cases xA;have pt:i<n:=by
       rcases la i n with h|h
       ·exact h
       ·rw[jt (by omega)]at hy;have:=pV y (je hy);have:=this.2 _ (je hc);simp[AV.leaf]at this
      rw[jr (by omega),kL,jm pt]at hy;have Je:∃b,o.Fe=some b:=by
       cases hbk:o.Fe with
       | none=>have:=(ob.none hbk).1;rw[this]at hy;simp at hy
       | some b=>exact⟨b,rfl⟩
      obtain⟨b,Je⟩:=Je;obtain⟨_,cur,pF,_⟩:=ob.some b Je;obtain⟨u,q1,q2⟩:=d3 b Je cur _ _ pF i y j e s' zs hy hc;have sF:j<o.row.size:=by rw[<- (ob.lens y (je hy)).1];exact (jg.1 hc).1
      have rn:i*o.row.size+j<n*ei.size:=by
       have:(i+1)*o.row.size<=n*o.row.size:=kS _ pt;rw[kP]at this;rw[<- Gh];omega
      have q3:=yh b cur _ u Je pF rn q1;refine⟨u,?_,L5 (w:=w) (λ_ h=>h) (λc qW=>mR w.drew _ (ob.mo _ (d1 _ _ _ qW)).2.1) _ u q2⟩;have pG:=(jg.1 q3).1;rw[lP (by simp;omega),lP (by simpa using pG)];simpa using q3
     refine⟨ob.pos,λy hy=>?_,by simp,λb pX=>?_,λg hg=>⟨(ob.mo g hg).1,by have:=(ob.mo g hg).2.1;simp;omega,λe=>by simp only[jh]at e;have:=(ob.mo g hg).2.1;omega⟩,yb⟩
     ·rcases kJ.1 hy with h|h
      ·simp only[Gh];exact px y h
      ·simp only[Gh];exact⟨(pV y h).1,λc hc=>Dz ((pV y h).2 c hc)⟩
     ·simp only[jh]at pX;subst pX;refine⟨λhF=>absurd (hr.FR _ hF) (Nat.lt_irrefl _),_,by rw[uM];exact heap_alloc_new w.drew _,by simp only[Gh];exact e1,by simp only[kD,vq];exact rj,qn,λi y hy j c hc=>?_⟩;obtain⟨u,f1,f2⟩:=e2 i y hy j c hc;exact⟨u,by simpa only[Gh] using f1,oh _ _ f2⟩)
    exact⟨this.1,this.2.1⟩
   have tm:∀cap,Ae F (w.drew.alloc (.cells #[] 0)) (os.set id ⟨⟨g+1,o.row.elem,o.row.size,o.row.xs.take n++ys⟩,some w.heap.size,cap,o.more⟩) (.own id (g+1) (n+ys.length)) (.slice (some ⟨w.heap.size,0,none⟩) (n+ys.length) cap):=λcap=>by
    simp only[Ae];exact⟨_,rm _,by simp,⟨_,_,_,rfl⟩,λ_=>⟨by simp only[kD,vq];omega,.inr ⟨_,rfl,(L4 (o:=⟨⟨g+1,o.row.elem,o.row.size,o.row.xs.take n++ys⟩,some w.heap.size,_,o.more⟩) (by rw[kD,vq])).symm⟩⟩⟩
   have rz:=grownCap_ge w (n+ys.length);have uu:=mh w (n+ys.length);rcases hd with ⟨tA,a0,rfl⟩|⟨b0,Je,rfl⟩
   ·have tK:=ob.none tA;simp only[tK.1,lE,nR]at yC;subst yC;have pK:(Builtin.append_ #[t,t] ty #[.slice a0 0 0,.slice (some ⟨b,off,none⟩) ys.length c]).run P w=.ok (.slice (some ⟨w.heap.size,0,none⟩) (0+ys.length) (grownCap w (0+ys.length) 0 ei.e))
      (w.drew.alloc (.cells (([]:List Value).toArray++us.toArray++Builtin.zeroCells z.cells (grownCap w (0+ys.length) 0 ei.e-(0+ys.length))) ei.e)):=by
     cases a0 with
     | none=>
      have:=run_append_nil (P:=P) w t ty ei.e inf z hu hi hz ⟨b,off,none⟩ ys.length c us sI pb (by omega) (by omega) (by rw[<- hby];rw[kt]at hb;omega);simpa using this
     | some a0=>
      have:=mc (P:=P) w t ty ei.e inf z hu hi hz a0 0 0 [] (by simp) (by simp) ⟨b,off,none⟩ ys.length c us sI pb (by omega) (by omega) (mr (by omega) (by rw[<- hby];exact hb));simpa using this
    have tn:=ye (grownCap w (0+ys.length) 0 ei.e) [] (by simp[GZ]) (λb cur k u hb=>by rw[tA]at hb;cases hb) (rz 0 ei.e) (uu 0 ei.e (by simp[maxLen];omega));exact⟨_,_,_,_,_,hk,pK,tn.1,by simpa [Ae] using tm _,tn.2⟩
   ·obtain⟨tH,cur,pF,qk,vW,tc,pH⟩:=ob.some b0 Je;by_cases hroom:n+ys.length<=o.cap
    ·have qN:n*inf.size+us.length<=cur.size:=by rw[sI,qk,Gh,pL,<- kP];exact kS _ hroom
     have pK:=run_append_room (P:=P) w t ty ei.e inf hu hi b0 n o.cap cur (by rw[<- uM];exact pF) ⟨b,off,none⟩ ys.length c us sI pb tl hroom qN;have wN:=hr.Oz (k:=k) (o':=⟨⟨g+1,o.row.elem,o.row.size,o.row.xs.take n++ys⟩,some b0,o.cap,o.more⟩) ho (w':=w.setRow b0 (cur.toList.take (n*inf.size)++us++cur.toList.drop (n*inf.size+us.length)).toArray) (by rw[Je];exact Hb.setRow _ _ _) (by simp[hg]) rfl (λe=>by simp[hg]at e) (λg hg=>by
       rcases hg with hg|hg
       ·simp only[jh]at hg;exact .inl (.inl (by rw[Je,hg]))
       ·exact .inl (.inr hg)) (λoh=>by
      have yb:KH (w.setRow b0 (cur.toList.take (n*inf.size)++us++cur.toList.drop (n*inf.size+us.length)).toArray) ⟨⟨g+1,o.row.elem,o.row.size,o.row.xs.take n++ys⟩,some b0,o.cap,o.more⟩:=by
       obtain⟨D,d1,d2,d3⟩:=ob.deep;refine⟨D,d1,d2,λb' pX sG el l pa i y j e s' zs hy hc=>?_⟩;simp only[jh]at pX hy⊢;subst pX;rw[nS w b0 cur _ _ _ pF]at pa;cases pa;have pt:i<n:=by
        rcases la i n with h|h
        ·exact h
        ·rw[jt (by omega)]at hy;have:=pV y (je hy);have:=this.2 _ (je hc);simp[AV.leaf]at this
       rw[jr (by omega),kL,jm pt]at hy;obtain⟨u,q1,q2⟩:=d3 b0 Je cur _ _ pF i y j e s' zs hy hc;have sF:j<o.row.size:=by rw[<- (ob.lens y (je hy)).1];exact (jg.1 hc).1
       have rn:i*o.row.size+j<n*inf.size:=by
        have:(i+1)*o.row.size<=n*o.row.size:=kS _ pt;rw[kP]at this;rw[<- pL,<- Gh];omega
       refine⟨u,?_,L5 (λ_ h=>h) (λc qW=>setRow_other w b0 c _ λe=>(ob.mo _ (d1 _ _ _ qW)).2.2 (by rw[Je,e])) _ u q2⟩;rw[J6 qN,jm rn];exact q1
      refine⟨ob.pos,λy hy=>?_,by simp,λb pX=>?_,λg hg=>⟨(ob.mo g hg).1,by simpa using (ob.mo g hg).2.1,by rw[<- Je];exact (ob.mo g hg).2.2⟩,yb⟩
      ·rcases kJ.1 hy with h|h
       ·simp only[Gh];exact px y h
       ·simp only[Gh];exact⟨(pV y h).1,λc hc=>Dz ((pV y h).2 c hc)⟩
      ·simp only[jh]at pX;subst pX;refine⟨tH,_,nS w b0 cur _ _ _ pF,?_,by simp only[kD,vq];exact hroom,tc,λi y hy j c hc=>?_⟩
       ·simp only[mO,kD,lu,mI,ly]at qN⊢;rw[<- qk];omega
       ·simp only at hy⊢;rw[J6 qN];by_cases pt:i<n
        ·rw[jr (by omega),kL,jm pt]at hy;obtain⟨u,f1,f2⟩:=pH i y hy j c hc;have sF:j<o.row.size:=by rw[<- (ob.lens y (je hy)).1];exact (jg.1 hc).1
         have:(i+1)*o.row.size<=n*o.row.size:=kS _ pt;rw[kP]at this;refine⟨u,?_,oh _ _ f2⟩;rw[jm (by rw[<- pL,<- Gh];omega)];exact f1
        ·rw[jt (by omega),vq]at hy;obtain⟨u,f1,f2⟩:=hrep.2 _ y hy j c hc;refine⟨u,?_,oh _ _ f2⟩;have pG:=(jg.1 f1).1;have h3:n*o.row.size<=i*o.row.size:=kS _ (by omega);rw[Nat.sub_mul]at f1 pG;rw[<- Gh]at f1 pG;rw[jn (by rw[<- pL,<- Gh];omega),jm (by rw[<- pL,<- Gh];omega),<- f1];congr 1;rw[<- pL,<- Gh];omega)
     refine⟨_,_,_,_,_,hk,pK,wN.1,?_,wN.2.1⟩;simp only[Ae];exact⟨_,rm _,by simp,⟨_,_,_,rfl⟩,λ_=>⟨by simp only[kD,vq];omega,.inr ⟨_,rfl,by simp[vY]⟩⟩⟩
    ·
     have hold:∀(i:Nat) y,(o.row.xs.take n)[i]?=some y->L7 F w os b0 (0+i*ei.size) y:=λi y hy=>by
      rw[kL]at hy;split at hy
      ·have:=hr.Np ho Je hy;rw[Gh]at this;simpa using this
      ·cases hy
     obtain⟨pz,h1,h2,_,h4⟩:=Pr (λx hx=>(px x hx).1) hold;have pK:=mc (P:=P) w t ty ei.e inf z hu hi hz ⟨b0,0,none⟩ n o.cap pz (by rw[h1,vq,pL]) h2 ⟨b,off,none⟩ ys.length c us sI pb (by omega) (by omega) (mr (by omega) (by rw[<- hby];exact hb));have tn:=ye (grownCap w (n+ys.length) o.cap ei.e) pz ⟨h1,λi y hy j c hc=>by obtain⟨u,f1,_,f2⟩:=h4 i y hy j c hc;exact⟨u,f1,f2⟩⟩ (λb sG k u pX pa hk q=>by
      rw[Je]at pX;cases pX;rw[pF]at pa;cases pa;have rn:k<pz.length:=by rw[h1,vq];exact hk
      have:=h2 k _ (jl rn);rw[DI,ml w b0 _ cur _ _ pF,kt,q]at this;rw[jl rn,<- this]) (rz o.cap ei.e) (uu o.cap ei.e (by simp[maxLen];omega))
     exact⟨_,_,_,_,_,hk,pK,tn.1,by simpa [Ae] using tm _,tn.2⟩
 | _=>exact h.elim
end Go.Abs
