import Derived.Test.YtfkncfjpobjbjaaAbsE
set_option linter.all false
namespace Go.Abs
open Go
variable {P : Program} {F : Nat -> Prop} {os : List Own} {s : St} {a : Act} {w : World} {k : Nat}
def Ci (F:Nat->Prop)(w:World)(os:List Own)(size:Nat)(us:List Value)(xs:List (List AV)):Prop:=
 us.length=xs.length*size/\∀(i:Nat) x,xs[i]?=some x->∀(j:Nat) c,x[j]?=some c->∃u,us[i*size+j]?=some u/\AF F w os c u
theorem Ci.nil {size:Nat}:Ci F w os size [] []:=⟨by simp,by simp⟩
theorem Ci.append {size:Nat}{us vs:List Value}{xs ys:List (List AV)}(h:Ci F w os size us xs)(g:Ci F w os size vs ys):Ci F w os size (us++vs) (xs++ys):=by
 refine⟨by rw[SP,SP,h.1,g.1,SM],λi x hi j c hc=>?_⟩;by_cases T9:i<xs.length
 ·rw[Rt T9]at hi;obtain⟨u,h1,h2⟩:=h.2 i x hi j c hc;exact⟨u,by rw[Rt (Rm.1 h1).1];exact h1,h2⟩
 ·rw[Rv (by omega)]at hi;obtain⟨u,h1,h2⟩:=g.2 _ x hi j c hc;refine⟨u,?_,h2⟩;have:xs.length*size<=i*size:=SN _ (by omega);rw[Rv (by rw[h.1];omega),<- h1,h.1];congr 1;rw[Nat.sub_mul];omega
theorem Rel.JB (hr:Rel F os s a w){e:TypeId}{size:Nat}(Ue:0<size):
  let o:Own:=⟨⟨0,e,size,[]⟩,none,0,Cg⟩
  Rel F (os++[o]) { s with st:=s.st++[o.row] } a w/\Ext F os w F (os++[o]) w k/\(∀x v,AF F w os x v->AF F w (os++[o]) x v):=by
 intro o;have T5:∀(i:Nat) (oi:Own),(os++[o])[i]?=some oi->os[i]?=some oi∨(i=os.length/\oi=o):=λi oi hi=>by
  rcases SW i os.length with h|h|h
  ·rw[Rt h]at hi;exact .inl hi
  ·subst h;simp at hi;exact .inr ⟨rfl,hi.symm⟩
  ·rw[Rv (by omega),SE (by simp;omega)]at hi;cases hi
 have:=hr.JI (k:=k) (EC w none) (by simp) (os':=os++[o]) (Bt.append os [o]) (λi oi hi=>by
   rcases T5 i oi hi with h|⟨_,rfl⟩
   ·exact .inl ⟨h,by simp⟩
   ·exact .inr ⟨Ue,by simp[o],by simp[o],by simp[o],λg hg=>hg.elim,B2 (by simp[o])⟩)
  (λi j oi oj g hi hj WH WI=>by
   rcases T5 i oi hi with h|⟨h,rfl⟩<;>rcases T5 j oj hj with h'|⟨h',rfl⟩
   ·exact hr.inj i j oi oj g h h' WH WI
   ·simp[o,Own.owns,Cg]at WI
   ·simp[o,Own.owns,Cg]at WH
   ·omega)
  (λo' UU g hg=>by
   rcases SI.1 UU with h|h
   ·exact .inr ⟨o',h,hg⟩
   ·simp only[R8]at h;subst h;simp[o,Own.owns,Cg]at hg)
  (by simp)
 refine⟨?_,this.2.1,this.2.2⟩;have h1:=this.1;rw[Se,hr.st]at h1;simpa using h1
theorem EW {t ty e:TypeId}{i:TypeInfo}(ht:P.underlying t=some (.slice e))(hi:P.info? e=some i)(base ad:Option Addr)(n cap c:Nat)(hn:n<=cap):
  (Builtin.append_ #[t,t] ty #[.slice base n cap,.slice ad 0 c]).run P w=.ok (.slice base n cap) w:=by
 have hf:(Builtin.firstCells i.size 0 (.slice ad 0 c)).run P w=.ok #[] w:=by
  cases ad<;>simp[Builtin.firstCells,loadCells,loadCellsFrom]
 cases base<;>simp[Builtin.append_,SJ ht,sizeOf,typeInfo,hi,Builtin.lenOf,hn,hf,storeCells]
theorem Dv {α:Type}(l:List α)(x:α):(l++[x])[l.length]?=some x:=by simp
theorem Ht {size n m cap:Nat}{z:Value}(XS:z.cells.size=size){us vs:List Value}{xs ys:List (List AV)}(gY:xs.length=n)(gZ:ys.length=m)
  (h:Ci F w os size us xs) (g:Ci F w os size vs ys) (Vw:n+m<=cap) :
  (us.toArray++vs.toArray++Builtin.zeroCells z.cells (cap-(n+m))).size=cap*size/\
  ∀(i:Nat) x,(xs++ys)[i]?=some x->∀(j:Nat) c,x[j]?=some c->∃u,(us.toArray++vs.toArray++Builtin.zeroCells z.cells (cap-(n+m)))[i*size+j]?=some u/\AF F w os c u:=by
 have Vz:=Ci.append h g;constructor
 ·simp only[Array.size_append,Tl,size_zeroCells,XS,h.1,g.1,gY,gZ,<- SM];congr 1;omega
 ·intro i x hi j c hc;obtain⟨u,h1,h2⟩:=Vz.2 i x hi j c hc;refine⟨u,?_,h2⟩;have T9:=(Rm.1 h1).1;rw[S4 (by simpa using T9)];simpa using h1
theorem MV {t ty:TypeId}{d x:AV}{ud ux:Value}{K:AV->List Row->Prop}(hr:Rel F os s a w)(h:JQ P s.st t d x K)(hd:AF F w os d ud)(hx:AF F w os x ux):
  CU P k F os s a w (Builtin.append_ #[t,t] ty #[ud,ux]) K:=by
 obtain⟨ei,he,h⟩:=AU h;obtain⟨inf,z,hu,hi,hz,XS,Ue,UX,hby,_,_⟩:=EJ he;obtain⟨ys,h,hys,ZV,⟨ad,c,rfl,hsrc⟩⟩:=My hr h hx;have ZV:∀y∈ys,∀c∈y,c.leaf=true:=by
  rcases ZV with rfl|h
  ·simp
  ·exact h
 have Y6:0<ys.length->∃b o,ad=some ⟨b,o,none⟩/\(∀y∈ys,y.length=ei.size/\∀c∈y,c.leaf=true)/\∃us:List Value,us.length=ys.length*inf.size/\(∀(j:Nat) u,us[j]?=some u->w.cell? ((⟨b,o,none⟩:Addr).add j)=some u)/\(∀u∈us,u.oneCell'=true)/\Ci F w os ei.size us ys:=λhp=>by
  rcases hsrc with rfl|⟨b,o,rfl,hc⟩
  ·simp at hp
  ·obtain⟨us,h1,h2,h3,h4⟩:=KM hys hc;refine⟨b,o,rfl,λy hy=>⟨hys y hy,ZV y hy⟩,us,by rw[h1,UX],h2,h3,h1,λi y hy j c hc=>?_⟩;obtain⟨u,e1,_,e2⟩:=h4 i y hy j c hc;exact⟨u,e1,e2⟩
 cases d with
 | zc=>
  obtain⟨hb,hm,hk⟩:=h;simp only[AF]at hd;obtain⟨cW,rfl⟩:=hd;by_cases hm0:ys.length=0
  ·have ZW:ys=[]:=SK hm0;subst ZW;have:=hr.JB (k:=k) (e:=ei.e) (size:=ei.size) (by omega);refine⟨_,_,_,_,_,hk,EW hu hi cW ad 0 0 c (Rz _),this.1,?_,this.2.1⟩;simp only[AF];exact⟨⟨⟨0,ei.e,ei.size,[]⟩,none,0,Cg⟩,by rw[hr.len];simp,by simp,⟨_,_,_,rfl⟩,λ_=>⟨by simp,.inl ⟨rfl,rfl,_,rfl⟩⟩⟩
  ·obtain⟨b,o,rfl,UT,us,XU,Ui,Yi,hrep⟩:=Y6 (by omega);have Wu:=grownCap_ge w ys.length 0 ei.e;have hle:=grownCap_le_maxLen w ys.length 0 ei.e (by simp[maxLen];omega);have UM:(Builtin.append_ #[t,t] ty #[.slice cW 0 0,.slice (some ⟨b,o,none⟩) ys.length c]).run P w=.ok (.slice (some ⟨w.heap.size,0,none⟩) ys.length (grownCap w ys.length 0 ei.e))
     (w.drew.alloc (.cells (([]:List Value).toArray++us.toArray++Builtin.zeroCells z.cells (grownCap w ys.length 0 ei.e-(0+ys.length))) ei.e)):=by
    cases cW with
    | none=>
     have:=run_append_nil (P:=P) w t ty ei.e inf z hu hi hz ⟨b,o,none⟩ ys.length c us XU Ui (by omega) (by omega) (by rw[<- hby];omega);simpa using this
    | some a0=>
     have:=run_append_grow (P:=P) w t ty ei.e inf z hu hi hz a0 0 0 [] (by simp) (by simp) ⟨b,o,none⟩ ys.length c us XU Ui (by omega) (by omega) (growslice_fits (by omega) (by rw[<- hby,TK];exact hb));simpa using this
   obtain⟨e1,e2⟩:=Ht (F:=F) (w:=w) (os:=os) (z:=z) (size:=ei.size) (n:=0) (m:=ys.length) (cap:=grownCap w ys.length 0 ei.e) (by rw[XS,UX]) (by rfl) rfl Ci.nil hrep (by omega);have:=hr.Iu (k:=k) (.inr rfl) (cur:=_) (e:=ei.e) (size:=ei.size) (cap:=grownCap w ys.length 0 ei.e) (xs:=ys) (by omega) UT e1 Wu hle (λi x hx j c hc=>e2 i x (by simpa using hx) j c hc);refine⟨_,_,_,_,_,hk,UM,this.1,?_,this.2.1⟩;simp only[AF];exact⟨⟨⟨0,ei.e,ei.size,ys⟩,some w.heap.size,grownCap w ys.length 0 ei.e,Cg⟩,by rw[hr.len];exact Dv _ _,Rz _,⟨_,_,_,rfl⟩,λ_=>⟨Rz _,.inr ⟨_,rfl,by simp⟩⟩⟩
 | own id g n=>
  obtain⟨row,T0,hg,hnw,aF,Bq,hb,hm,hk⟩:=AU h;obtain⟨o,ho,rfl⟩:=hr.row T0;simp only[AF]at hd;obtain⟨o',UU,Wu,_,hd⟩:=hd;rw[ho]at UU;cases UU;obtain⟨aH,hd⟩:=hd hg;simp only[Eb hnw]at hd;have T2:=hr.rows id o ho;have Yj:(o.row.xs.take n).length=n:=by simp;omega
  have fJ:o.BV=none->o.row.xs=[]:=λhn=>by
   rcases hd with ⟨_,h0,_⟩|⟨b,hb,_⟩
   ·exact h0
   ·rw[hn]at hb;cases hb
  have V0:∀o':Own,(os.set id o')[id]?=some o':=λo'=>Rs (Rm.1 ho).1;have Vj:∀x∈o.row.xs.take n,x.length=ei.size/\∀c∈x,c.kept=true:=λx hx=>by
   have:=T2.lens x (SV hx);rw[Bq]at this;exact this
  by_cases hm0:ys.length=0
  ·have ZW:ys=[]:=SK hm0;subst ZW;have U1:=hr.GS (k:=k) (o':={ o with row:={ o.row with gen:=g+1,xs:=o.row.xs.take n++[] } }) ho (w':=w) (EC w _) (by simp[hg]) rfl (λe=>by simp[hg]at e) (λg hg=>.inl hg) (λT4=>by
    refine⟨T2.pos,λy hy=>?_,λhn=>?_,λb UO=>?_,T2.mo,T2.deep.keep rfl (λ_ h=>h) rfl (λ_ _=>rfl) (λi x j e s ys hx hc=>by
     simp only[TS,R6]at hx;split at hx
     ·exact⟨x,hx,hc⟩
     ·cases hx)⟩
    ·simp only[TS]at hy;exact T2.lens y (SV hy)
    ·have:=T2.nil hn (fJ hn);simp[this.1,this.2]
    ·obtain⟨h1,cur,h2,h3,h4,h5,h6⟩:=T2.some b UO;refine⟨h1,cur,h2,h3,by simp;omega,h5,λi y hy j c hc=>?_⟩;simp only[TS,R6]at hy;split at hy
     ·obtain⟨u,e1,e2⟩:=h6 i y hy j c hc;exact⟨u,e1,T4 _ _ e2⟩
     ·cases hy)
   have Yk:∃base cp,ud=.slice base n cp/\n<=cp/\((o.BV=none/\o.row.xs=[]/\ud=.slice base n 0)∨∃b,o.BV=some b/\ud=.slice (some ⟨b,0,none⟩) n o.cap):=by
    rcases hd with ⟨hbn,VY,a0,rfl⟩|⟨b,Vt,rfl⟩
    ·have:=T2.nil hbn VY;simp only[this.1,Sw,Tm]at aH;exact⟨a0,0,rfl,by omega,.inl ⟨hbn,VY,rfl⟩⟩
    ·obtain⟨_,_,_,_,h4,_⟩:=T2.some b Vt;exact⟨_,o.cap,rfl,by omega,.inr ⟨b,Vt,rfl⟩⟩
   obtain⟨base,cp,rfl,hncp,hv⟩:=Yk;refine⟨_,_,_,_,_,hk,EW hu hi base ad n cp c hncp,U1.1,?_,U1.2.1⟩;simp only[AF];refine⟨_,V0 _,by simp,⟨_,_,_,rfl⟩,λ_=>⟨by simp;omega,?_⟩⟩;rcases hv with ⟨hbn,VY,hv⟩|⟨b,Vt,hv⟩
   ·exact .inl ⟨hbn,by simp[VY],base,by simpa using hv⟩
   ·have hz:min n o.row.xs.length-n=0:=by omega
    exact .inr ⟨b,Vt,by simpa [hz] using hv⟩
  ·obtain⟨b,off,rfl,UT,us,XU,Ui,Yi,hrep⟩:=Y6 (by omega);have aZ:∀(cap:Nat) (VP:List Value),Ci F w os ei.size VP (o.row.xs.take n)->(∀(b:Nat) (cur:Array Value) (k:Nat) (u:Value),o.BV=some b->w.heap[b]?=some (.cells cur o.row.elem (0,0))->k<n*ei.size->cur[k]?=some u->VP[k]?=some u)->n+ys.length<=cap->cap<=maxLen->
     Rel F (os.set id ⟨⟨g+1,o.row.elem,o.row.size,o.row.xs.take n++ys⟩,some w.heap.size,cap,o.more⟩) { s with st:=s.st.set id ⟨g+1,o.row.elem,o.row.size,o.row.xs.take n++ys⟩ } a (w.drew.alloc (.cells (VP.toArray++us.toArray++Builtin.zeroCells z.cells (cap-(n+ys.length))) ei.e))/\
     Ext F os w F (os.set id ⟨⟨g+1,o.row.elem,o.row.size,o.row.xs.take n++ys⟩,some w.heap.size,cap,o.more⟩) (w.drew.alloc (.cells (VP.toArray++us.toArray++Builtin.zeroCells z.cells (cap-(n+ys.length))) ei.e)) k:=λcap VP hold aa Vw VO=>by
    obtain⟨e1,e2⟩:=Ht (F:=F) (w:=w) (os:=os) (z:=z) (size:=ei.size) (n:=n) (m:=ys.length) (cap:=cap) (by rw[XS,UX]) Yj rfl hold hrep Vw;have:=hr.GS (k:=k) (o':=⟨⟨g+1,o.row.elem,o.row.size,o.row.xs.take n++ys⟩,some w.heap.size,cap,o.more⟩) ho (w':=w.drew.alloc (.cells (VP.toArray++us.toArray++Builtin.zeroCells z.cells (cap-(n+ys.length))) ei.e)) (Eg _ _ _) (by simp[hg]) rfl (λe=>by simp[hg]at e) (λg hg=>by
      rcases hg with hg|hg
      ·simp only[Rn]at hg;exact .inr (by omega)
      ·exact .inl (.inr hg)) (λT4=>by
     have aX:Dn (w.drew.alloc (.cells (VP.toArray++us.toArray++Builtin.zeroCells z.cells (cap-(n+ys.length))) ei.e)) ⟨⟨g+1,o.row.elem,o.row.size,o.row.xs.take n++ys⟩,some w.heap.size,cap,o.more⟩:=by
      obtain⟨-,D,d1,d2,d3⟩:=T2.deep;refine⟨λ_ _ _ _ hn=>(by cases hn),D,d1,d2,λb' UO Ww el l UZ i y j e s' zs hy hc=>?_⟩;simp only[Rn]at UO hy⊢;subst UO;have X2:=Tj w.drew (.cells (VP.toArray++us.toArray++Builtin.zeroCells z.cells (cap-(n+ys.length))) ei.e);have ZX:some (Obj.cells (VP.toArray++us.toArray++Builtin.zeroCells z.cells (cap-(n+ys.length))) ei.e)=some (.cells Ww el l):=X2.symm.trans UZ;cases ZX;have Ut:i<n:=by
       rcases TD i n with h|h
       ·exact h
       ·rw[Rv (by omega)]at hy;have:=UT y (Rk hy);have:=this.2 _ (Rk hc);simp[AV.leaf]at this
      rw[Rt (by omega),R6,Ry Ut]at hy;have Vt:∃b,o.BV=some b:=by
       cases hbk:o.BV with
       | none=>have:=(T2.nil hbk (fJ hbk)).1;rw[this]at hy;simp at hy
       | some b=>exact⟨b,rfl⟩
      obtain⟨b,Vt⟩:=Vt;obtain⟨_,cur,T7,_⟩:=T2.some b Vt;obtain⟨u,q1,q2⟩:=d3 b Vt cur _ _ T7 i y j e s' zs hy hc;have Vl:j<o.row.size:=by rw[<- (T2.lens y (Rk hy)).1];exact (Rm.1 hc).1
      have aI:i*o.row.size+j<n*ei.size:=by
       have:(i+1)*o.row.size<=n*o.row.size:=SN _ Ut;rw[SM]at this;rw[<- Bq];omega
      have q3:=aa b cur _ u Vt T7 aI q1;refine⟨u,?_,Et (w:=w) (λ_ h=>h) (λc U2=>heap_alloc_old w.drew _ (T2.mo _ (d1 _ _ _ U2)).2.1) _ u q2⟩;have T9:=(Rm.1 q3).1;rw[S4 (by simp;omega),S4 (by simpa using T9)];simpa using q3
     refine⟨T2.pos,λy hy=>?_,by simp,λb UO=>?_,λg hg=>⟨(T2.mo g hg).1,by have:=(T2.mo g hg).2.1;simp;omega,λe=>by simp only[Rn]at e;have:=(T2.mo g hg).2.1;omega⟩,aX⟩
     ·rcases SI.1 hy with h|h
      ·simp only[Bq];exact Vj y h
      ·simp only[Bq];exact⟨(UT y h).1,λc hc=>Bd ((UT y h).2 c hc)⟩
     ·simp only[Rn]at UO;subst UO;refine⟨λhF=>absurd (hr.CL _ hF) (Td _),_,by rw[aF];exact Tj w.drew _,by simp only[Bq];exact e1,by simp only[SP,Yj];exact Vw,VO,λi y hy j c hc=>?_⟩;obtain⟨u,f1,f2⟩:=e2 i y hy j c hc;exact⟨u,by simpa only[Bq] using f1,T4 _ _ f2⟩)
    exact⟨this.1,this.2.1⟩
   have XV:∀cap,AF F (w.drew.alloc (.cells #[] 0)) (os.set id ⟨⟨g+1,o.row.elem,o.row.size,o.row.xs.take n++ys⟩,some w.heap.size,cap,o.more⟩) (.own id (g+1) (n+ys.length)) (.slice (some ⟨w.heap.size,0,none⟩) (n+ys.length) cap):=λcap=>by
    simp only[AF];exact⟨_,V0 _,by simp,⟨_,_,_,rfl⟩,λ_=>⟨by simp only[SP,Yj];omega,.inr ⟨_,rfl,(Eb (o:=⟨⟨g+1,o.row.elem,o.row.size,o.row.xs.take n++ys⟩,some w.heap.size,_,o.more⟩) (by rw[SP,Yj])).symm⟩⟩⟩
   have Wu:=grownCap_ge w (n+ys.length);have ab:=grownCap_le_maxLen w (n+ys.length);rcases hd with ⟨hbn,VY,a0,rfl⟩|⟨b0,Vt,rfl⟩
   ·have cX:=T2.nil hbn VY;clear VY;simp only[cX.1,Sw,Tm]at aH;subst aH;have UM:(Builtin.append_ #[t,t] ty #[.slice a0 0 0,.slice (some ⟨b,off,none⟩) ys.length c]).run P w=.ok (.slice (some ⟨w.heap.size,0,none⟩) (0+ys.length) (grownCap w (0+ys.length) 0 ei.e))
      (w.drew.alloc (.cells (([]:List Value).toArray++us.toArray++Builtin.zeroCells z.cells (grownCap w (0+ys.length) 0 ei.e-(0+ys.length))) ei.e)):=by
     cases a0 with
     | none=>
      have:=run_append_nil (P:=P) w t ty ei.e inf z hu hi hz ⟨b,off,none⟩ ys.length c us XU Ui (by omega) (by omega) (by rw[<- hby];rw[TK]at hb;omega);simpa using this
     | some a0=>
      have:=run_append_grow (P:=P) w t ty ei.e inf z hu hi hz a0 0 0 [] (by simp) (by simp) ⟨b,off,none⟩ ys.length c us XU Ui (by omega) (by omega) (growslice_fits (by omega) (by rw[<- hby];exact hb));simpa using this
    have ae:=aZ (grownCap w (0+ys.length) 0 ei.e) [] (by simp[Ci]) (λb cur k u hb=>by rw[hbn]at hb;cases hb) (Wu 0 ei.e) (ab 0 ei.e (by simp[maxLen];omega));exact⟨_,_,_,_,_,hk,UM,ae.1,by simpa [AF] using XV _,ae.2⟩
   ·obtain⟨YY,cur,T7,WJ,cQ,hmaxc,T6⟩:=T2.some b0 Vt;by_cases hroom:n+ys.length<=o.cap
    ·have WV:n*inf.size+us.length<=cur.size:=by rw[XU,WJ,Bq,UX,<- SM];exact SN _ hroom
     have UM:=run_append_room (P:=P) w t ty ei.e inf hu hi b0 n o.cap cur (by rw[<- aF];exact T7) ⟨b,off,none⟩ ys.length c us XU Ui Yi hroom WV;have Y7:=hr.GS (k:=k) (o':=⟨⟨g+1,o.row.elem,o.row.size,o.row.xs.take n++ys⟩,some b0,o.cap,o.more⟩) ho (w':=w.setRow b0 (cur.toList.take (n*inf.size)++us++cur.toList.drop (n*inf.size+us.length)).toArray) (by rw[Vt];exact Dx.setRow _ _ _) (by simp[hg]) rfl (λe=>by simp[hg]at e) (λg hg=>by
       rcases hg with hg|hg
       ·simp only[Rn]at hg;exact .inl (.inl (by rw[Vt,hg]))
       ·exact .inl (.inr hg)) (λT4=>by
      have aX:Dn (w.setRow b0 (cur.toList.take (n*inf.size)++us++cur.toList.drop (n*inf.size+us.length)).toArray) ⟨⟨g+1,o.row.elem,o.row.size,o.row.xs.take n++ys⟩,some b0,o.cap,o.more⟩:=by
       obtain⟨-,D,d1,d2,d3⟩:=T2.deep;refine⟨λ_ _ _ _ hn=>(by cases hn),D,d1,d2,λb' UO Ww el l UZ i y j e s' zs hy hc=>?_⟩;simp only[Rn]at UO hy⊢;subst UO;rw[setRow_heap w b0 cur _ _ _ T7]at UZ;cases UZ;have Ut:i<n:=by
        rcases TD i n with h|h
        ·exact h
        ·rw[Rv (by omega)]at hy;have:=UT y (Rk hy);have:=this.2 _ (Rk hc);simp[AV.leaf]at this
       rw[Rt (by omega),R6,Ry Ut]at hy;obtain⟨u,q1,q2⟩:=d3 b0 Vt cur _ _ T7 i y j e s' zs hy hc;have Vl:j<o.row.size:=by rw[<- (T2.lens y (Rk hy)).1];exact (Rm.1 hc).1
       have aI:i*o.row.size+j<n*inf.size:=by
        have:(i+1)*o.row.size<=n*o.row.size:=SN _ Ut;rw[SM]at this;rw[<- UX,<- Bq];omega
       refine⟨u,?_,Et (λ_ h=>h) (λc U2=>setRow_other w b0 c _ λe=>(T2.mo _ (d1 _ _ _ U2)).2.2 (by rw[Vt,e])) _ u q2⟩;rw[EI WV,Ry aI];exact q1
      refine⟨T2.pos,λy hy=>?_,by simp,λb UO=>?_,λg hg=>⟨(T2.mo g hg).1,by simpa using (T2.mo g hg).2.1,by rw[<- Vt];exact (T2.mo g hg).2.2⟩,aX⟩
      ·rcases SI.1 hy with h|h
       ·simp only[Bq];exact Vj y h
       ·simp only[Bq];exact⟨(UT y h).1,λc hc=>Bd ((UT y h).2 c hc)⟩
      ·simp only[Rn]at UO;subst UO;refine⟨YY,_,setRow_heap w b0 cur _ _ _ T7,?_,by simp only[SP,Yj];exact hroom,hmaxc,λi y hy j c hc=>?_⟩
       ·simp only[Tl,SP,TJ,Tt,Sy]at WV⊢;rw[<- WJ];omega
       ·simp only at hy⊢;rw[EI WV];by_cases Ut:i<n
        ·rw[Rt (by omega),R6,Ry Ut]at hy;obtain⟨u,f1,f2⟩:=T6 i y hy j c hc;have Vl:j<o.row.size:=by rw[<- (T2.lens y (Rk hy)).1];exact (Rm.1 hc).1
         have:(i+1)*o.row.size<=n*o.row.size:=SN _ Ut;rw[SM]at this;refine⟨u,?_,T4 _ _ f2⟩;rw[Ry (by rw[<- UX,<- Bq];omega)];exact f1
        ·rw[Rv (by omega),Yj]at hy;obtain⟨u,f1,f2⟩:=hrep.2 _ y hy j c hc;refine⟨u,?_,T4 _ _ f2⟩;have T9:=(Rm.1 f1).1;have h3:n*o.row.size<=i*o.row.size:=SN _ (by omega);rw[Nat.sub_mul]at f1 T9;rw[<- Bq]at f1 T9;rw[Rx (by rw[<- UX,<- Bq];omega),Ry (by rw[<- UX,<- Bq];omega),<- f1];congr 1;rw[<- UX,<- Bq];omega)
     refine⟨_,_,_,_,_,hk,UM,Y7.1,?_,Y7.2.1⟩;simp only[AF];exact⟨_,V0 _,by simp,⟨_,_,_,rfl⟩,λ_=>⟨by simp only[SP,Yj];omega,.inr ⟨_,rfl,by simp[hnw]⟩⟩⟩
    ·
     have hold:∀(i:Nat) y,(o.row.xs.take n)[i]?=some y->FJ F w os b0 (0+i*ei.size) y:=λi y hy=>by
      rw[R6]at hy;split at hy
      ·have:=hr.IP ho Vt hy;rw[Bq]at this;simpa using this
      ·cases hy
     obtain⟨VP,h1,h2,_,h4⟩:=KM (λx hx=>(Vj x hx).1) hold;have UM:=run_append_grow (P:=P) w t ty ei.e inf z hu hi hz ⟨b0,0,none⟩ n o.cap VP (by rw[h1,Yj,UX]) h2 ⟨b,off,none⟩ ys.length c us XU Ui (by omega) (by omega) (growslice_fits (by omega) (by rw[<- hby];exact hb));have ae:=aZ (grownCap w (n+ys.length) o.cap ei.e) VP ⟨h1,λi y hy j c hc=>by obtain⟨u,f1,_,f2⟩:=h4 i y hy j c hc;exact⟨u,f1,f2⟩⟩ (λb Ww k u UO UZ hk q=>by
      rw[Vt]at UO;cases UO;rw[T7]at UZ;cases UZ;have aI:k<VP.length:=by rw[h1,Yj];exact hk
      have:=h2 k _ (Rp aI);rw[Bp,TI w b0 _ cur _ _ T7,TK,q]at this;rw[Rp aI,<- this]) (Wu o.cap ei.e) (ab o.cap ei.e (by simp[maxLen];omega))
     exact⟨_,_,_,_,_,hk,UM,ae.1,by simpa [AF] using XV _,ae.2⟩
 | _=>exact h.elim
end Go.Abs
