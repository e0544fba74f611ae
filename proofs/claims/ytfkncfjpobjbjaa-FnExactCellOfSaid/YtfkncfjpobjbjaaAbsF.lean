import Derived.Test.YtfkncfjpobjbjaaAbsE
set_option linter.all false
namespace Go.Abs
open Go
variable {P : Program} {F : Nat -> Prop} {os : List Own} {s : St} {a : Act} {w : World} {k : Nat}
def Ck (F:Nat->Prop)(w:World)(os:List Own)(size:Nat)(us:List Value)(xs:List (List AV)):Prop:=
 us.length=xs.length*size/\∀(i:Nat) x,xs[i]?=some x->∀(j:Nat) c,x[j]?=some c->∃u,us[i*size+j]?=some u/\AF F w os c u
theorem Ck.nil {size:Nat}:Ck F w os size [] []:=⟨by simp,by simp⟩
theorem Ck.append {size:Nat}{us vs:List Value}{xs ys:List (List AV)}(h:Ck F w os size us xs)(g:Ck F w os size vs ys):Ck F w os size (us++vs) (xs++ys):=by
 refine⟨by rw[SV,SV,h.1,g.1,SQ],λi x hi j c hc=>?_⟩;by_cases UM:i<xs.length
 ·rw[Rx UM]at hi;obtain⟨u,h1,h2⟩:=h.2 i x hi j c hc;exact⟨u,by rw[Rx (Rq.1 h1).1];exact h1,h2⟩
 ·rw[Rz (by omega)]at hi;obtain⟨u,h1,h2⟩:=g.2 _ x hi j c hc;refine⟨u,?_,h2⟩;have:xs.length*size<=i*size:=SS _ (by omega);rw[Rz (by rw[h.1];omega),<- h1,h.1];congr 1;rw[Nat.sub_mul];omega
theorem Rel.Jc (hr:Rel F os s a w){e:TypeId}{size:Nat}(Ui:0<size):
  let o:Own:=⟨⟨0,e,size,[]⟩,none,0,Cl⟩
  Rel F (os++[o]) { s with st:=s.st++[o.row] } a w/\Ext F os w F (os++[o]) w k/\(∀x v,AF F w os x v->AF F w (os++[o]) x v):=by
 intro o;have T9:∀(i:Nat) (oi:Own),(os++[o])[i]?=some oi->os[i]?=some oi∨(i=os.length/\oi=o):=λi oi hi=>by
  rcases Sb i os.length with h|h|h
  ·rw[Rx h]at hi;exact .inl hi
  ·subst h;simp at hi;exact .inr ⟨rfl,hi.symm⟩
  ·rw[Rz (by omega),SI (by simp;omega)]at hi;cases hi
 have:=hr.Jl (k:=k) (EF w none) (by simp) (os':=os++[o]) (Bz.append os [o]) (λi oi hi=>by
   rcases T9 i oi hi with h|⟨_,rfl⟩
   ·exact .inl ⟨h,by simp⟩
   ·exact .inr ⟨Ui,by simp[o],by simp[o],by simp[o],λg hg=>hg.elim,B3 (by simp[o])⟩)
  (λi j oi oj g hi hj WL WM=>by
   rcases T9 i oi hi with h|⟨h,rfl⟩<;>rcases T9 j oj hj with h'|⟨h',rfl⟩
   ·exact hr.inj i j oi oj g h h' WL WM
   ·simp[o,Own.owns,Cl]at WM
   ·simp[o,Own.owns,Cl]at WL
   ·omega)
  (λo' UZ g hg=>by
   rcases SM.1 UZ with h|h
   ·exact .inr ⟨o',h,hg⟩
   ·simp only[SC]at h;subst h;simp[o,Own.owns,Cl]at hg)
  (by simp)
 refine⟨?_,this.2.1,this.2.2⟩;have h1:=this.1;rw[Sj,hr.st]at h1;simpa using h1
theorem Ea {t ty e:TypeId}{i:TypeInfo}(ht:P.underlying t=some (.slice e))(hi:P.info? e=some i)(base ad:Option Addr)(n cap c:Nat)(hn:n<=cap):
  (Builtin.append_ #[t,t] ty #[.slice base n cap,.slice ad 0 c]).run P w=.ok (.slice base n cap) w:=by
 have hf:(Builtin.firstCells i.size 0 (.slice ad 0 c)).run P w=.ok #[] w:=by
  cases ad<;>simp[Builtin.firstCells,loadCells,loadCellsFrom]
 cases base<;>simp[Builtin.append_,SN ht,sizeOf,typeInfo,hi,Builtin.lenOf,hn,hf,storeCells]
theorem Ds {α:Type}(l:List α)(x:α):(l++[x])[l.length]?=some x:=by simp
theorem Hw {size n m cap:Nat}{z:Value}(XZ:z.cells.size=size){us vs:List Value}{xs ys:List (List AV)}(gl:xs.length=n)(gn:ys.length=m)
  (h:Ck F w os size us xs) (g:Ck F w os size vs ys) (V0:n+m<=cap) :
  (us.toArray++vs.toArray++Builtin.zeroCells z.cells (cap-(n+m))).size=cap*size/\
  ∀(i:Nat) x,(xs++ys)[i]?=some x->∀(j:Nat) c,x[j]?=some c->∃u,(us.toArray++vs.toArray++Builtin.zeroCells z.cells (cap-(n+m)))[i*size+j]?=some u/\AF F w os c u:=by
 have V3:=Ck.append h g;constructor
 ·simp only[Array.size_append,Tq,size_zeroCells,XZ,h.1,g.1,gl,gn,<- SQ];congr 1;omega
 ·intro i x hi j c hc;obtain⟨u,h1,h2⟩:=V3.2 i x hi j c hc;refine⟨u,?_,h2⟩;have UM:=(Rq.1 h1).1;rw[S8 (by simpa using UM)];simpa using h1
theorem MQ {t ty:TypeId}{d x:AV}{ud ux:Value}{K:AV->List Row->Prop}(hr:Rel F os s a w)(h:Je P s.st t d x K)(hd:AF F w os d ud)(hx:AF F w os x ux):
  CU P k F os s a w (Builtin.append_ #[t,t] ty #[ud,ux]) K:=by
 obtain⟨ei,he,h⟩:=AU h;obtain⟨inf,z,hu,hi,hz,XZ,Ui,Uc,hby,_,_⟩:=EJ he;obtain⟨ys,h,hys,ZY,⟨ad,c,rfl,hsrc⟩⟩:=NQ hr h hx;have ZY:∀y∈ys,∀c∈y,c.leaf=true:=by
  rcases ZY with rfl|h
  ·simp
  ·exact h
 have ZA:0<ys.length->∃b o,ad=some ⟨b,o,none⟩/\(∀y∈ys,y.length=ei.size/\∀c∈y,c.leaf=true)/\∃us:List Value,us.length=ys.length*inf.size/\(∀(j:Nat) u,us[j]?=some u->w.cell? ((⟨b,o,none⟩:Addr).add j)=some u)/\(∀u∈us,u.oneCell'=true)/\Ck F w os ei.size us ys:=λhp=>by
  rcases hsrc with rfl|⟨b,o,rfl,hc⟩
  ·simp at hp
  ·obtain⟨us,h1,h2,h3,h4⟩:=Kj hys hc;refine⟨b,o,rfl,λy hy=>⟨hys y hy,ZY y hy⟩,us,by rw[h1,Uc],h2,h3,h1,λi y hy j c hc=>?_⟩;obtain⟨u,e1,_,e2⟩:=h4 i y hy j c hc;exact⟨u,e1,e2⟩
 cases d with
 | zc=>
  obtain⟨hb,hm,hk⟩:=h;simp only[AF]at hd;obtain⟨cd,rfl⟩:=hd;by_cases hm0:ys.length=0
  ·have ZZ:ys=[]:=SO hm0;subst ZZ;have:=hr.Jc (k:=k) (e:=ei.e) (size:=ei.size) (by omega);refine⟨_,_,_,_,_,hk,Ea hu hi cd ad 0 0 c (R3 _),this.1,?_,this.2.1⟩;simp only[AF];exact⟨⟨⟨0,ei.e,ei.size,[]⟩,none,0,Cl⟩,by rw[hr.len];simp,by simp,⟨_,_,_,rfl⟩,λ_=>⟨by simp,.inl ⟨rfl,rfl,_,rfl⟩⟩⟩
  ·obtain⟨b,o,rfl,UY,us,Xb,Um,Yp,hrep⟩:=ZA (by omega);have W4:=grownCap_ge w ys.length 0 ei.e;have hle:=grownCap_le_maxLen w ys.length 0 ei.e (by simp[maxLen];omega);have UR:(Builtin.append_ #[t,t] ty #[.slice cd 0 0,.slice (some ⟨b,o,none⟩) ys.length c]).run P w=.ok (.slice (some ⟨w.heap.size,0,none⟩) ys.length (grownCap w ys.length 0 ei.e))
     (w.drew.alloc (.cells (([]:List Value).toArray++us.toArray++Builtin.zeroCells z.cells (grownCap w ys.length 0 ei.e-(0+ys.length))) ei.e)):=by
    cases cd with
    | none=>
     have:=run_append_nil (P:=P) w t ty ei.e inf z hu hi hz ⟨b,o,none⟩ ys.length c us Xb Um (by omega) (by omega) (by rw[<- hby];omega);simpa using this
    | some a0=>
     have:=run_append_grow (P:=P) w t ty ei.e inf z hu hi hz a0 0 0 [] (by simp) (by simp) ⟨b,o,none⟩ ys.length c us Xb Um (by omega) (by omega) (growslice_fits (by omega) (by rw[<- hby,TO];exact hb));simpa using this
   obtain⟨e1,e2⟩:=Hw (F:=F) (w:=w) (os:=os) (z:=z) (size:=ei.size) (n:=0) (m:=ys.length) (cap:=grownCap w ys.length 0 ei.e) (by rw[XZ,Uc]) (by rfl) rfl Ck.nil hrep (by omega);have:=hr.I4 (k:=k) (.inr rfl) (cur:=_) (e:=ei.e) (size:=ei.size) (cap:=grownCap w ys.length 0 ei.e) (xs:=ys) (by omega) UY e1 W4 hle (λi x hx j c hc=>e2 i x (by simpa using hx) j c hc);refine⟨_,_,_,_,_,hk,UR,this.1,?_,this.2.1⟩;simp only[AF];exact⟨⟨⟨0,ei.e,ei.size,ys⟩,some w.heap.size,grownCap w ys.length 0 ei.e,Cl⟩,by rw[hr.len];exact Ds _ _,R3 _,⟨_,_,_,rfl⟩,λ_=>⟨R3 _,.inr ⟨_,rfl,by simp⟩⟩⟩
 | own id g n=>
  obtain⟨row,T4,hg,hnw,aO,Br,hb,hm,hk⟩:=AU h;obtain⟨o,ho,rfl⟩:=hr.row T4;simp only[AF]at hd;obtain⟨o',UZ,W4,_,hd⟩:=hd;rw[ho]at UZ;cases UZ;obtain⟨aP,hd⟩:=hd hg;simp only[Ef hnw]at hd;have T6:=hr.rows id o ho;have Yq:(o.row.xs.take n).length=n:=by simp;omega
  have fO:o.BW=none->o.row.xs=[]:=λhn=>by
   rcases hd with ⟨_,h0,_⟩|⟨b,hb,_⟩
   ·exact h0
   ·rw[hn]at hb;cases hb
  have V4:∀o':Own,(os.set id o')[id]?=some o':=λo'=>Rw (Rq.1 ho).1;have Vp:∀x∈o.row.xs.take n,x.length=ei.size/\∀c∈x,c.kept=true:=λx hx=>by
   have:=T6.lens x (SZ hx);rw[Br]at this;exact this
  by_cases hm0:ys.length=0
  ·have ZZ:ys=[]:=SO hm0;subst ZZ;have U6:=hr.GR (k:=k) (o':={ o with row:={ o.row with gen:=g+1,xs:=o.row.xs.take n++[] } }) ho (w':=w) (EF w _) (by simp[hg]) rfl (λe=>by simp[hg]at e) (λg hg=>.inl hg) (λT8=>by
    refine⟨T6.pos,λy hy=>?_,λhn=>?_,λb US=>?_,T6.mo,T6.deep.keep rfl (λ_ h=>h) rfl (λ_ _=>rfl) (λi x j e s ys hx hc=>by
     simp only[TW,SB]at hx;split at hx
     ·exact⟨x,hx,hc⟩
     ·cases hx)⟩
    ·simp only[TW]at hy;exact T6.lens y (SZ hy)
    ·have:=T6.nil hn (fO hn);simp[this.1,this.2]
    ·obtain⟨h1,cur,h2,h3,h4,h5,h6⟩:=T6.some b US;refine⟨h1,cur,h2,h3,by simp;omega,h5,λi y hy j c hc=>?_⟩;simp only[TW,SB]at hy;split at hy
     ·obtain⟨u,e1,e2⟩:=h6 i y hy j c hc;exact⟨u,e1,T8 _ _ e2⟩
     ·cases hy)
   have X7:∃base cp,ud=.slice base n cp/\n<=cp/\((o.BW=none/\o.row.xs=[]/\ud=.slice base n 0)∨∃b,o.BW=some b/\ud=.slice (some ⟨b,0,none⟩) n o.cap):=by
    rcases hd with ⟨hbn,Vf,a0,rfl⟩|⟨b,Vx,rfl⟩
    ·have:=T6.nil hbn Vf;simp only[this.1,S3,Tr]at aP;exact⟨a0,0,rfl,by omega,.inl ⟨hbn,Vf,rfl⟩⟩
    ·obtain⟨_,_,_,_,h4,_⟩:=T6.some b Vx;exact⟨_,o.cap,rfl,by omega,.inr ⟨b,Vx,rfl⟩⟩
   obtain⟨base,cp,rfl,hncp,hv⟩:=X7;refine⟨_,_,_,_,_,hk,Ea hu hi base ad n cp c hncp,U6.1,?_,U6.2.1⟩;simp only[AF];refine⟨_,V4 _,by simp,⟨_,_,_,rfl⟩,λ_=>⟨by simp;omega,?_⟩⟩;rcases hv with ⟨hbn,Vf,hv⟩|⟨b,Vx,hv⟩
   ·exact .inl ⟨hbn,by simp[Vf],base,by simpa using hv⟩
   ·have hz:min n o.row.xs.length-n=0:=by omega
    exact .inr ⟨b,Vx,by simpa [hz] using hv⟩
  ·obtain⟨b,off,rfl,UY,us,Xb,Um,Yp,hrep⟩:=ZA (by omega);have ah:∀(cap:Nat) (VW:List Value),Ck F w os ei.size VW (o.row.xs.take n)->(∀(b:Nat) (cur:Array Value) (k:Nat) (u:Value),o.BW=some b->w.heap[b]?=some (.cells cur o.row.elem (0,0))->k<n*ei.size->cur[k]?=some u->VW[k]?=some u)->n+ys.length<=cap->cap<=maxLen->
     Rel F (os.set id ⟨⟨g+1,o.row.elem,o.row.size,o.row.xs.take n++ys⟩,some w.heap.size,cap,o.more⟩) { s with st:=s.st.set id ⟨g+1,o.row.elem,o.row.size,o.row.xs.take n++ys⟩ } a (w.drew.alloc (.cells (VW.toArray++us.toArray++Builtin.zeroCells z.cells (cap-(n+ys.length))) ei.e))/\
     Ext F os w F (os.set id ⟨⟨g+1,o.row.elem,o.row.size,o.row.xs.take n++ys⟩,some w.heap.size,cap,o.more⟩) (w.drew.alloc (.cells (VW.toArray++us.toArray++Builtin.zeroCells z.cells (cap-(n+ys.length))) ei.e)) k:=λcap VW hold aj V0 VV=>by
    obtain⟨e1,e2⟩:=Hw (F:=F) (w:=w) (os:=os) (z:=z) (size:=ei.size) (n:=n) (m:=ys.length) (cap:=cap) (by rw[XZ,Uc]) Yq rfl hold hrep V0;have:=hr.GR (k:=k) (o':=⟨⟨g+1,o.row.elem,o.row.size,o.row.xs.take n++ys⟩,some w.heap.size,cap,o.more⟩) ho (w':=w.drew.alloc (.cells (VW.toArray++us.toArray++Builtin.zeroCells z.cells (cap-(n+ys.length))) ei.e)) (Eo _ _ _) (by simp[hg]) rfl (λe=>by simp[hg]at e) (λg hg=>by
      rcases hg with hg|hg
      ·simp only[Rr]at hg;exact .inr (by omega)
      ·exact .inl (.inr hg)) (λT8=>by
     have ae:D0 (w.drew.alloc (.cells (VW.toArray++us.toArray++Builtin.zeroCells z.cells (cap-(n+ys.length))) ei.e)) ⟨⟨g+1,o.row.elem,o.row.size,o.row.xs.take n++ys⟩,some w.heap.size,cap,o.more⟩:=by
      obtain⟨-,D,d1,d2,d3⟩:=T6.deep;refine⟨λ_ _ _ _ hn=>(by cases hn),D,d1,d2,λb' US W6 el l Ue i y j e s' zs hy hc=>?_⟩;simp only[Rr]at US hy⊢;subst US;have X8:=To w.drew (.cells (VW.toArray++us.toArray++Builtin.zeroCells z.cells (cap-(n+ys.length))) ei.e);have Za:some (Obj.cells (VW.toArray++us.toArray++Builtin.zeroCells z.cells (cap-(n+ys.length))) ei.e)=some (.cells W6 el l):=X8.symm.trans Ue;cases Za;have Uy:i<n:=by
       rcases TH i n with h|h
       ·exact h
       ·rw[Rz (by omega)]at hy;have:=UY y (Ro hy);have:=this.2 _ (Ro hc);simp[AV.leaf]at this
      rw[Rx (by omega),SB,R1 Uy]at hy;have Vx:∃b,o.BW=some b:=by
       cases hbk:o.BW with
       | none=>have:=(T6.nil hbk (fO hbk)).1;rw[this]at hy;simp at hy
       | some b=>exact⟨b,rfl⟩
      obtain⟨b,Vx⟩:=Vx;obtain⟨_,cur,UK,_⟩:=T6.some b Vx;obtain⟨u,q1,q2⟩:=d3 b Vx cur _ _ UK i y j e s' zs hy hc;have Vr:j<o.row.size:=by rw[<- (T6.lens y (Ro hy)).1];exact (Rq.1 hc).1
      have aQ:i*o.row.size+j<n*ei.size:=by
       have:(i+1)*o.row.size<=n*o.row.size:=SS _ Uy;rw[SQ]at this;rw[<- Br];omega
      have q3:=aj b cur _ u Vx UK aQ q1;refine⟨u,?_,Et (w:=w) (λ_ h=>h) (λc U7=>heap_alloc_old w.drew _ (T6.mo _ (d1 _ _ _ U7)).2.1) _ u q2⟩;have UM:=(Rq.1 q3).1;rw[S8 (by simp;omega),S8 (by simpa using UM)];simpa using q3
     refine⟨T6.pos,λy hy=>?_,by simp,λb US=>?_,λg hg=>⟨(T6.mo g hg).1,by have:=(T6.mo g hg).2.1;simp;omega,λe=>by simp only[Rr]at e;have:=(T6.mo g hg).2.1;omega⟩,ae⟩
     ·rcases SM.1 hy with h|h
      ·simp only[Br];exact Vp y h
      ·simp only[Br];exact⟨(UY y h).1,λc hc=>Bd ((UY y h).2 c hc)⟩
     ·simp only[Rr]at US;subst US;refine⟨λhF=>absurd (hr.CL _ hF) (Th _),_,by rw[aO];exact To w.drew _,by simp only[Br];exact e1,by simp only[SV,Yq];exact V0,VV,λi y hy j c hc=>?_⟩;obtain⟨u,f1,f2⟩:=e2 i y hy j c hc;exact⟨u,by simpa only[Br] using f1,T8 _ _ f2⟩)
    exact⟨this.1,this.2.1⟩
   have Xc:∀cap,AF F (w.drew.alloc (.cells #[] 0)) (os.set id ⟨⟨g+1,o.row.elem,o.row.size,o.row.xs.take n++ys⟩,some w.heap.size,cap,o.more⟩) (.own id (g+1) (n+ys.length)) (.slice (some ⟨w.heap.size,0,none⟩) (n+ys.length) cap):=λcap=>by
    simp only[AF];exact⟨_,V4 _,by simp,⟨_,_,_,rfl⟩,λ_=>⟨by simp only[SV,Yq];omega,.inr ⟨_,rfl,(Ef (o:=⟨⟨g+1,o.row.elem,o.row.size,o.row.xs.take n++ys⟩,some w.heap.size,_,o.more⟩) (by rw[SV,Yq])).symm⟩⟩⟩
   have W4:=grownCap_ge w (n+ys.length);have ak:=grownCap_le_maxLen w (n+ys.length);rcases hd with ⟨hbn,Vf,a0,rfl⟩|⟨b0,Vx,rfl⟩
   ·have cf:=T6.nil hbn Vf;clear Vf;simp only[cf.1,S3,Tr]at aP;subst aP;have UR:(Builtin.append_ #[t,t] ty #[.slice a0 0 0,.slice (some ⟨b,off,none⟩) ys.length c]).run P w=.ok (.slice (some ⟨w.heap.size,0,none⟩) (0+ys.length) (grownCap w (0+ys.length) 0 ei.e))
      (w.drew.alloc (.cells (([]:List Value).toArray++us.toArray++Builtin.zeroCells z.cells (grownCap w (0+ys.length) 0 ei.e-(0+ys.length))) ei.e)):=by
     cases a0 with
     | none=>
      have:=run_append_nil (P:=P) w t ty ei.e inf z hu hi hz ⟨b,off,none⟩ ys.length c us Xb Um (by omega) (by omega) (by rw[<- hby];rw[TO]at hb;omega);simpa using this
     | some a0=>
      have:=run_append_grow (P:=P) w t ty ei.e inf z hu hi hz a0 0 0 [] (by simp) (by simp) ⟨b,off,none⟩ ys.length c us Xb Um (by omega) (by omega) (growslice_fits (by omega) (by rw[<- hby];exact hb));simpa using this
    have al:=ah (grownCap w (0+ys.length) 0 ei.e) [] (by simp[Ck]) (λb cur k u hb=>by rw[hbn]at hb;cases hb) (W4 0 ei.e) (ak 0 ei.e (by simp[maxLen];omega));exact⟨_,_,_,_,_,hk,UR,al.1,by simpa [AF] using Xc _,al.2⟩
   ·obtain⟨Yd,cur,UK,WN,cX,hmaxc,UJ⟩:=T6.some b0 Vx;by_cases hroom:n+ys.length<=o.cap
    ·have Wf:n*inf.size+us.length<=cur.size:=by rw[Xb,WN,Br,Uc,<- SQ];exact SS _ hroom
     have UR:=run_append_room (P:=P) w t ty ei.e inf hu hi b0 n o.cap cur (by rw[<- aO];exact UK) ⟨b,off,none⟩ ys.length c us Xb Um Yp hroom Wf;have ZB:=hr.GR (k:=k) (o':=⟨⟨g+1,o.row.elem,o.row.size,o.row.xs.take n++ys⟩,some b0,o.cap,o.more⟩) ho (w':=w.setRow b0 (cur.toList.take (n*inf.size)++us++cur.toList.drop (n*inf.size+us.length)).toArray) (by rw[Vx];exact Dz.setRow _ _ _) (by simp[hg]) rfl (λe=>by simp[hg]at e) (λg hg=>by
       rcases hg with hg|hg
       ·simp only[Rr]at hg;exact .inl (.inl (by rw[Vx,hg]))
       ·exact .inl (.inr hg)) (λT8=>by
      have ae:D0 (w.setRow b0 (cur.toList.take (n*inf.size)++us++cur.toList.drop (n*inf.size+us.length)).toArray) ⟨⟨g+1,o.row.elem,o.row.size,o.row.xs.take n++ys⟩,some b0,o.cap,o.more⟩:=by
       obtain⟨-,D,d1,d2,d3⟩:=T6.deep;refine⟨λ_ _ _ _ hn=>(by cases hn),D,d1,d2,λb' US W6 el l Ue i y j e s' zs hy hc=>?_⟩;simp only[Rr]at US hy⊢;subst US;rw[setRow_heap w b0 cur _ _ _ UK]at Ue;cases Ue;have Uy:i<n:=by
        rcases TH i n with h|h
        ·exact h
        ·rw[Rz (by omega)]at hy;have:=UY y (Ro hy);have:=this.2 _ (Ro hc);simp[AV.leaf]at this
       rw[Rx (by omega),SB,R1 Uy]at hy;obtain⟨u,q1,q2⟩:=d3 b0 Vx cur _ _ UK i y j e s' zs hy hc;have Vr:j<o.row.size:=by rw[<- (T6.lens y (Ro hy)).1];exact (Rq.1 hc).1
       have aQ:i*o.row.size+j<n*inf.size:=by
        have:(i+1)*o.row.size<=n*o.row.size:=SS _ Uy;rw[SQ]at this;rw[<- Uc,<- Br];omega
       refine⟨u,?_,Et (λ_ h=>h) (λc U7=>setRow_other w b0 c _ λe=>(T6.mo _ (d1 _ _ _ U7)).2.2 (by rw[Vx,e])) _ u q2⟩;rw[EN Wf,R1 aQ];exact q1
      refine⟨T6.pos,λy hy=>?_,by simp,λb US=>?_,λg hg=>⟨(T6.mo g hg).1,by simpa using (T6.mo g hg).2.1,by rw[<- Vx];exact (T6.mo g hg).2.2⟩,ae⟩
      ·rcases SM.1 hy with h|h
       ·simp only[Br];exact Vp y h
       ·simp only[Br];exact⟨(UY y h).1,λc hc=>Bd ((UY y h).2 c hc)⟩
      ·simp only[Rr]at US;subst US;refine⟨Yd,_,setRow_heap w b0 cur _ _ _ UK,?_,by simp only[SV,Yq];exact hroom,hmaxc,λi y hy j c hc=>?_⟩
       ·simp only[Tq,SV,TN,Tx,S5]at Wf⊢;rw[<- WN];omega
       ·simp only at hy⊢;rw[EN Wf];by_cases Uy:i<n
        ·rw[Rx (by omega),SB,R1 Uy]at hy;obtain⟨u,f1,f2⟩:=UJ i y hy j c hc;have Vr:j<o.row.size:=by rw[<- (T6.lens y (Ro hy)).1];exact (Rq.1 hc).1
         have:(i+1)*o.row.size<=n*o.row.size:=SS _ Uy;rw[SQ]at this;refine⟨u,?_,T8 _ _ f2⟩;rw[R1 (by rw[<- Uc,<- Br];omega)];exact f1
        ·rw[Rz (by omega),Yq]at hy;obtain⟨u,f1,f2⟩:=hrep.2 _ y hy j c hc;refine⟨u,?_,T8 _ _ f2⟩;have UM:=(Rq.1 f1).1;have h3:n*o.row.size<=i*o.row.size:=SS _ (by omega);rw[Nat.sub_mul]at f1 UM;rw[<- Br]at f1 UM;rw[R0 (by rw[<- Uc,<- Br];omega),R1 (by rw[<- Uc,<- Br];omega),<- f1];congr 1;rw[<- Uc,<- Br];omega)
     refine⟨_,_,_,_,_,hk,UR,ZB.1,?_,ZB.2.1⟩;simp only[AF];exact⟨_,V4 _,by simp,⟨_,_,_,rfl⟩,λ_=>⟨by simp only[SV,Yq];omega,.inr ⟨_,rfl,by simp[hnw]⟩⟩⟩
    ·
     have hold:∀(i:Nat) y,(o.row.xs.take n)[i]?=some y->FQ F w os b0 (0+i*ei.size) y:=λi y hy=>by
      rw[SB]at hy;split at hy
      ·have:=hr.IS ho Vx hy;rw[Br]at this;simpa using this
      ·cases hy
     obtain⟨VW,h1,h2,_,h4⟩:=Kj (λx hx=>(Vp x hx).1) hold;have UR:=run_append_grow (P:=P) w t ty ei.e inf z hu hi hz ⟨b0,0,none⟩ n o.cap VW (by rw[h1,Yq,Uc]) h2 ⟨b,off,none⟩ ys.length c us Xb Um (by omega) (by omega) (growslice_fits (by omega) (by rw[<- hby];exact hb));have al:=ah (grownCap w (n+ys.length) o.cap ei.e) VW ⟨h1,λi y hy j c hc=>by obtain⟨u,f1,_,f2⟩:=h4 i y hy j c hc;exact⟨u,f1,f2⟩⟩ (λb W6 k u US Ue hk q=>by
      rw[Vx]at US;cases US;rw[UK]at Ue;cases Ue;have aQ:k<VW.length:=by rw[h1,Yq];exact hk
      have:=h2 k _ (Rt aQ);rw[Bq,TM w b0 _ cur _ _ UK,TO,q]at this;rw[Rt aQ,<- this]) (W4 o.cap ei.e) (ak o.cap ei.e (by simp[maxLen];omega))
     exact⟨_,_,_,_,_,hk,UR,al.1,by simpa [AF] using Xc _,al.2⟩
 | _=>exact h.elim
end Go.Abs
