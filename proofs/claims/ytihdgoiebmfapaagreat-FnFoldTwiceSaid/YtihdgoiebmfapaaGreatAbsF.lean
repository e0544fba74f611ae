import Derived.Test.YtihdgoiebmfapaaGreatAbsE
namespace Go.Abs
open Go
variable {P : Program} {F : Nat -> Prop} {os : List Own} {s : St} {a : Act} {w : World} {k : Nat}
def Gf (F:Nat->Prop)(w:World)(os:List Own)(size:Nat)(us:List Value)(xs:List (List AV)):Prop:=
 us.length=xs.length*size/\∀(i:Nat) x,xs[i]?=some x->∀(j:Nat) c,x[j]?=some c->∃u,us[i*size+j]?=some u/\Ae F w os c u
theorem Gf.nil {size:Nat}:Gf F w os size [] []:=⟨by simp,by simp⟩
theorem Gf.append {size:Nat}{us vs:List Value}{xs ys:List (List AV)}(h:Gf F w os size us xs)(g:Gf F w os size vs ys):Gf F w os size (us++vs) (xs++ys):=by
 refine⟨by rw[kD,kD,h.1,g.1,kP],λi x hi j c hc=>?_⟩;by_cases hlt:i<xs.length
 ·rw[jr hlt]at hi;obtain⟨u,h1,h2⟩:=h.2 i x hi j c hc;exact⟨u,by rw[jr (jg.1 h1).1];exact h1,h2⟩
 ·rw[jt (by omega)]at hi;obtain⟨u,h1,h2⟩:=g.2 _ x hi j c hc;refine⟨u,?_,h2⟩;have:xs.length*size<=i*size:=kS _ (by omega);rw[jt (by rw[h.1];omega),<- h1,h.1];congr 1;rw[Nat.sub_mul];omega
theorem Rel.Vj (hr:Rel F os s a w){e:TypeId}{size:Nat}(hpos:0<size):
  let o:Own:=⟨⟨0,e,size,[]⟩,none,0,FW⟩
  Rel F (os++[o]) { s with st:=s.st++[o.row] } a w/\Ext F os w F (os++[o]) w k/\(∀x v,Ae F w os x v->Ae F w (os++[o]) x v):=by
 intro o;have hget:∀(i:Nat) (oi:Own),(os++[o])[i]?=some oi->os[i]?=some oi∨(i=os.length/\oi=o):=λi oi hi=>by
  rcases lH i os.length with h|h|h
  ·rw[jr h]at hi;exact .inl hi
  ·subst h;simp at hi;exact .inr ⟨rfl,hi.symm⟩
  ·rw[jt (by omega),kq (by simp;omega)]at hi;cases hi
 have:=hr.Wz (k:=k) (HY.refl w none) (by simp) (os':=os++[o]) (FH.append os [o]) (λi oi hi=>by
   rcases hget i oi hi with h|⟨_,rfl⟩
   ·exact .inl ⟨h,by simp⟩
   ·exact .inr ⟨hpos,by simp[o],by simp[o],by simp[o],λg hg=>hg.elim,Et (by simp[o])⟩)
  (λi j oi oj g hi hj hgi hgj=>by
   rcases hget i oi hi with h|⟨h,rfl⟩<;>rcases hget j oj hj with h'|⟨h',rfl⟩
   ·exact hr.inj i j oi oj g h h' hgi hgj
   ·simp[o,Own.owns,FW]at hgj
   ·simp[o,Own.owns,FW]at hgi
   ·omega)
  (λo' ho' g hg=>by
   rcases kJ.1 ho' with h|h
   ·exact .inr ⟨o',h,hg⟩
   ·simp only[jy]at h;subst h;simp[o,Own.owns,FW]at hg)
  (by simp)
 refine⟨?_,this.2.1,this.2.2⟩;have h1:=this.1;rw[lJ,hr.st]at h1;simpa using h1
theorem Lf {t ty e:TypeId}{i:TypeInfo}(ht:P.underlying t=some (.slice e))(hi:P.info? e=some i)(base ad:Option Addr)(n cap c:Nat)(hn:n<=cap):
  (Builtin.append_ #[t,t] ty #[.slice base n cap,.slice ad 0 c]).run P w=.ok (.slice base n cap) w:=by
 have hf:(Builtin.firstCells i.size 0 (.slice ad 0 c)).run P w=.ok #[] w:=by
  cases ad<;>simp[Builtin.firstCells,loadCells,loadCellsFrom]
 cases base<;>simp[Builtin.append_,kg ht,sizeOf,typeInfo,hi,Builtin.lenOf,hn,hf,storeCells]
theorem Jh {α:Type}(l:List α)(x:α):(l++[x])[l.length]?=some x:=by simp
theorem OP {size n m cap:Nat}{z:Value}(hzs:z.cells.size=size){us vs:List Value}{xs ys:List (List AV)}(hxn:xs.length=n)(hyn:ys.length=m)
  (h:Gf F w os size us xs) (g:Gf F w os size vs ys) (hcap:n+m<=cap) :
  (us.toArray++vs.toArray++Builtin.zeroCells z.cells (cap-(n+m))).size=cap*size/\
  ∀(i:Nat) x,(xs++ys)[i]?=some x->∀(j:Nat) c,x[j]?=some c->∃u,(us.toArray++vs.toArray++Builtin.zeroCells z.cells (cap-(n+m)))[i*size+j]?=some u/\Ae F w os c u:=by
 have hfl:=Gf.append h g;constructor
 ·simp only[Array.size_append,mO,size_zeroCells,hzs,h.1,g.1,hxn,hyn,<- kP];congr 1;omega
 ·intro i x hi j c hc;obtain⟨u,h1,h2⟩:=hfl.2 i x hi j c hc;refine⟨u,?_,h2⟩;have hlt:=(jg.1 h1).1;rw[lP (by simpa using hlt)];simpa using h1
theorem ZR {t ty:TypeId}{d x:AV}{ud ux:Value}{K:AV->List Row->Prop}(hr:Rel F os s a w)(h:VI P s.st t d x K)(hd:Ae F w os d ud)(hx:Ae F w os x ux):
  Hl P k F os s a w (Builtin.append_ #[t,t] ty #[ud,ux]) K:=by
 obtain⟨ei,he,h⟩:=BN h;obtain⟨inf,z,hu,hi,hz,hzs,hpos,hsz,hby,_,_⟩:=H8 he;obtain⟨ys,h,hys,hylf,⟨ad,c,rfl,hsrc⟩⟩:=Vz hr h hx;have hylf:∀y∈ys,∀c∈y,c.leaf=true:=by
  rcases hylf with rfl|h
  ·simp
  ·exact h
 have hnews:0<ys.length->∃b o,ad=some ⟨b,o,none⟩/\(∀y∈ys,y.length=ei.size/\∀c∈y,c.leaf=true)/\∃us:List Value,us.length=ys.length*inf.size/\(∀(j:Nat) u,us[j]?=some u->w.cell? ((⟨b,o,none⟩:Addr).add j)=some u)/\(∀u∈us,u.oneCell'=true)/\Gf F w os ei.size us ys:=λhp=>by
  rcases hsrc with rfl|⟨b,o,rfl,hc⟩
  ·simp at hp
  ·obtain⟨us,h1,h2,h3,h4⟩:=Pn hys hc;refine⟨b,o,rfl,λy hy=>⟨hys y hy,hylf y hy⟩,us,by rw[h1,hsz],h2,h3,h1,λi y hy j c hc=>?_⟩;obtain⟨u,e1,_,e2⟩:=h4 i y hy j c hc;exact⟨u,e1,e2⟩
 cases d with
 | zc=>
  obtain⟨hb,hm,hk⟩:=h;simp only[Ae]at hd;obtain⟨ad0,rfl⟩:=hd;by_cases hm0:ys.length=0
  ·have hys0:ys=[]:=ka hm0;subst hys0;have:=hr.Vj (k:=k) (e:=ei.e) (size:=ei.size) (by omega);refine⟨_,_,_,_,_,hk,Lf hu hi ad0 ad 0 0 c (jv _),this.1,?_,this.2.1⟩;simp only[Ae];exact⟨⟨⟨0,ei.e,ei.size,[]⟩,none,0,FW⟩,by rw[hr.len];simp,by simp,⟨_,_,_,rfl⟩,λ_=>⟨by simp,.inl ⟨rfl,_,rfl⟩⟩⟩
  ·obtain⟨b,o,rfl,hleaf,us,hul,hcell,hone,hrep⟩:=hnews (by omega);have hge:=grownCap_ge w ys.length 0 ei.e;have hle:=mh w ys.length 0 ei.e (by simp[maxLen];omega);have hrun:(Builtin.append_ #[t,t] ty #[.slice ad0 0 0,.slice (some ⟨b,o,none⟩) ys.length c]).run P w=.ok (.slice (some ⟨w.heap.size,0,none⟩) ys.length (grownCap w ys.length 0 ei.e))
     (w.drew.alloc (.cells (([]:List Value).toArray++us.toArray++Builtin.zeroCells z.cells (grownCap w ys.length 0 ei.e-(0+ys.length))) ei.e)):=by
    cases ad0 with
    | none=>
     have:=run_append_nil (P:=P) w t ty ei.e inf z hu hi hz ⟨b,o,none⟩ ys.length c us hul hcell (by omega) (by omega) (by rw[<- hby];omega);simpa using this
    | some a0=>
     have:=mc (P:=P) w t ty ei.e inf z hu hi hz a0 0 0 [] (by simp) (by simp) ⟨b,o,none⟩ ys.length c us hul hcell (by omega) (by omega) (mr (by omega) (by rw[<- hby,kt];exact hb));simpa using this
   obtain⟨e1,e2⟩:=OP (F:=F) (w:=w) (os:=os) (z:=z) (size:=ei.size) (n:=0) (m:=ys.length) (cap:=grownCap w ys.length 0 ei.e) (by rw[hzs,hsz]) (by rfl) rfl Gf.nil hrep (by omega);have:=hr.OS (k:=k) (.inr rfl) (cur:=_) (e:=ei.e) (size:=ei.size) (cap:=grownCap w ys.length 0 ei.e) (xs:=ys) (by omega) hleaf e1 hge hle (λi x hx j c hc=>e2 i x (by simpa using hx) j c hc);refine⟨_,_,_,_,_,hk,hrun,this.1,?_,this.2.1⟩;simp only[Ae];exact⟨⟨⟨0,ei.e,ei.size,ys⟩,some w.heap.size,grownCap w ys.length 0 ei.e,FW⟩,by rw[hr.len];exact Jh _ _,jv _,⟨_,_,_,rfl⟩,λ_=>⟨jv _,.inr ⟨_,rfl,by simp⟩⟩⟩
 | own id g n=>
  obtain⟨row,hrow,hg,hnw,hel,Gk,hb,hm,hk⟩:=BN h;obtain⟨o,ho,rfl⟩:=hr.row hrow;simp only[Ae]at hd;obtain⟨o',ho',hge,_,hd⟩:=hd;rw[ho]at ho';cases ho';obtain⟨hnl,hd⟩:=hd hg;simp only[L4 hnw]at hd;have hok:=hr.rows id o ho;have htk:(o.row.xs.take n).length=n:=by simp;omega
  have hset:∀o':Own,(os.set id o')[id]?=some o':=λo'=>ju (jg.1 ho).1;have hlens:∀x∈o.row.xs.take n,x.length=ei.size/\∀c∈x,c.kept=true:=λx hx=>by
   have:=hok.lens x (kv hx);rw[Gk]at this;exact this
  by_cases hm0:ys.length=0
  ·have hys0:ys=[]:=ka hm0;subst hys0;have hturn:=hr.PE (k:=k) (o':={ o with row:={ o.row with gen:=g+1,xs:=o.row.xs.take n++[] } }) ho (w':=w) (HY.refl w _) (by simp[hg]) rfl (λe=>by simp[hg]at e) (λg hg=>.inl hg) (λhmono=>by
    refine⟨hok.pos,λy hy=>?_,λhn=>?_,λb hb'=>?_,hok.mo,hok.deep.keep rfl (λ_ h=>h) rfl (λ_ _=>rfl) (λi x j e s ys hx hc=>by
     simp only[ky,kL]at hx;split at hx
     ·exact⟨x,hx,hc⟩
     ·cases hx)⟩
    ·simp only[ky]at hy;exact hok.lens y (kv hy)
    ·have:=hok.none hn;simp[this.1,this.2]
    ·obtain⟨h1,cur,h2,h3,h4,h5,h6⟩:=hok.some b hb';refine⟨h1,cur,h2,h3,by simp;omega,h5,λi y hy j c hc=>?_⟩;simp only[ky,kL]at hy;split at hy
     ·obtain⟨u,e1,e2⟩:=h6 i y hy j c hc;exact⟨u,e1,hmono _ _ e2⟩
     ·cases hy)
   have hval:∃base cp,ud=.slice base n cp/\n<=cp/\((o.Fe=none/\ud=.slice base n 0)∨∃b,o.Fe=some b/\ud=.slice (some ⟨b,0,none⟩) n o.cap):=by
    rcases hd with ⟨hbn,a0,rfl⟩|⟨b,Jd,rfl⟩
    ·have:=hok.none hbn;simp only[this.1,lE,nR]at hnl;exact⟨a0,0,rfl,by omega,.inl ⟨hbn,rfl⟩⟩
    ·obtain⟨_,_,_,_,h4,_⟩:=hok.some b Jd;exact⟨_,o.cap,rfl,by omega,.inr ⟨b,Jd,rfl⟩⟩
   obtain⟨base,cp,rfl,hncp,hv⟩:=hval;refine⟨_,_,_,_,_,hk,Lf hu hi base ad n cp c hncp,hturn.1,?_,hturn.2.1⟩;simp only[Ae];refine⟨_,hset _,by simp,⟨_,_,_,rfl⟩,λ_=>⟨by simp;omega,?_⟩⟩;rcases hv with ⟨hbn,hv⟩|⟨b,Jd,hv⟩
   ·exact .inl ⟨hbn,base,by simpa using hv⟩
   ·have hz:min n o.row.xs.length-n=0:=by omega
    exact .inr ⟨b,Jd,by simpa [hz] using hv⟩
  ·obtain⟨b,off,rfl,hleaf,us,hul,hcell,hone,hrep⟩:=hnews (by omega);have hgen:∀(cap:Nat) (olds:List Value),Gf F w os ei.size olds (o.row.xs.take n)->(∀(b:Nat) (cur:Array Value) (k:Nat) (u:Value),o.Fe=some b->w.heap[b]?=some (.cells cur o.row.elem (0,0))->k<n*ei.size->cur[k]?=some u->olds[k]?=some u)->n+ys.length<=cap->cap<=maxLen->
     Rel F (os.set id ⟨⟨g+1,o.row.elem,o.row.size,o.row.xs.take n++ys⟩,some w.heap.size,cap,o.more⟩) { s with st:=s.st.set id ⟨g+1,o.row.elem,o.row.size,o.row.xs.take n++ys⟩ } a (w.drew.alloc (.cells (olds.toArray++us.toArray++Builtin.zeroCells z.cells (cap-(n+ys.length))) ei.e))/\
     Ext F os w F (os.set id ⟨⟨g+1,o.row.elem,o.row.size,o.row.xs.take n++ys⟩,some w.heap.size,cap,o.more⟩) (w.drew.alloc (.cells (olds.toArray++us.toArray++Builtin.zeroCells z.cells (cap-(n+ys.length))) ei.e)) k:=λcap olds hold holdv hcap hmax=>by
    obtain⟨e1,e2⟩:=OP (F:=F) (w:=w) (os:=os) (z:=z) (size:=ei.size) (n:=n) (m:=ys.length) (cap:=cap) (by rw[hzs,hsz]) htk rfl hold hrep hcap;have:=hr.PE (k:=k) (o':=⟨⟨g+1,o.row.elem,o.row.size,o.row.xs.take n++ys⟩,some w.heap.size,cap,o.more⟩) ho (w':=w.drew.alloc (.cells (olds.toArray++us.toArray++Builtin.zeroCells z.cells (cap-(n+ys.length))) ei.e)) (L9 _ _ _) (by simp[hg]) rfl (λe=>by simp[hg]at e) (λg hg=>by
      rcases hg with hg|hg
      ·simp only[jh]at hg;exact .inr (by omega)
      ·exact .inl (.inr hg)) (λhmono=>by
     have hdp:KO (w.drew.alloc (.cells (olds.toArray++us.toArray++Builtin.zeroCells z.cells (cap-(n+ys.length))) ei.e)) ⟨⟨g+1,o.row.elem,o.row.size,o.row.xs.take n++ys⟩,some w.heap.size,cap,o.more⟩:=by
      obtain⟨D,d1,d2,d3⟩:=hok.deep;refine⟨D,d1,d2,λb' hb' cur' el l hcur' i y j e s' zs hy hc=>?_⟩;simp only[jh]at hb' hy⊢;subst hb';have hnew:=heap_alloc_new w.drew (.cells (olds.toArray++us.toArray++Builtin.zeroCells z.cells (cap-(n+ys.length))) ei.e);have hcur'':some (Obj.cells (olds.toArray++us.toArray++Builtin.zeroCells z.cells (cap-(n+ys.length))) ei.e)=some (.cells cur' el l):=hnew.symm.trans hcur';cases hcur'';have hin:i<n:=by
       rcases la i n with h|h
       ·exact h
       ·rw[jt (by omega)]at hy;have:=hleaf y (je hy);have:=this.2 _ (je hc);simp[AV.leaf]at this
      rw[jr (by omega),kL,jm hin]at hy;have Jd:∃b,o.Fe=some b:=by
       cases hbk:o.Fe with
       | none=>have:=(hok.none hbk).1;rw[this]at hy;simp at hy
       | some b=>exact⟨b,rfl⟩
      obtain⟨b,Jd⟩:=Jd;obtain⟨_,cur,hcur,_⟩:=hok.some b Jd;obtain⟨u,q1,q2⟩:=d3 b Jd cur _ _ hcur i y j e s' zs hy hc;have hjl:j<o.row.size:=by rw[<- (hok.lens y (je hy)).1];exact (jg.1 hc).1
      have hkl:i*o.row.size+j<n*ei.size:=by
       have:(i+1)*o.row.size<=n*o.row.size:=kS _ hin;rw[kP]at this;rw[<- Gk];omega
      have q3:=holdv b cur _ u Jd hcur hkl q1;refine⟨u,?_,MH (w:=w) (λ_ h=>h) (λc hcm=>mR w.drew _ (hok.mo _ (d1 _ _ _ hcm)).2.1) _ u q2⟩;have hlt:=(jg.1 q3).1;rw[lP (by simp;omega),lP (by simpa using hlt)];simpa using q3
     refine⟨hok.pos,λy hy=>?_,by simp,λb hb'=>?_,λg hg=>⟨(hok.mo g hg).1,by have:=(hok.mo g hg).2.1;simp;omega,λe=>by simp only[jh]at e;have:=(hok.mo g hg).2.1;omega⟩,hdp⟩
     ·rcases kJ.1 hy with h|h
      ·simp only[Gk];exact hlens y h
      ·simp only[Gk];exact⟨(hleaf y h).1,λc hc=>D0 ((hleaf y h).2 c hc)⟩
     ·simp only[jh]at hb';subst hb';refine⟨λhF=>absurd (hr.FT _ hF) (Nat.lt_irrefl _),_,by rw[hel];exact heap_alloc_new w.drew _,by simp only[Gk];exact e1,by simp only[kD,htk];exact hcap,hmax,λi y hy j c hc=>?_⟩;obtain⟨u,f1,f2⟩:=e2 i y hy j c hc;exact⟨u,by simpa only[Gk] using f1,hmono _ _ f2⟩)
    exact⟨this.1,this.2.1⟩
   have hfin:∀cap,Ae F (w.drew.alloc (.cells #[] 0)) (os.set id ⟨⟨g+1,o.row.elem,o.row.size,o.row.xs.take n++ys⟩,some w.heap.size,cap,o.more⟩) (.own id (g+1) (n+ys.length)) (.slice (some ⟨w.heap.size,0,none⟩) (n+ys.length) cap):=λcap=>by
    simp only[Ae];exact⟨_,hset _,by simp,⟨_,_,_,rfl⟩,λ_=>⟨by simp only[kD,htk];omega,.inr ⟨_,rfl,(L4 (o:=⟨⟨g+1,o.row.elem,o.row.size,o.row.xs.take n++ys⟩,some w.heap.size,_,o.more⟩) (by rw[kD,htk])).symm⟩⟩⟩
   have hge:=grownCap_ge w (n+ys.length);have hlem:=mh w (n+ys.length);rcases hd with ⟨hbn,a0,rfl⟩|⟨b0,Jd,rfl⟩
   ·have hn0:=hok.none hbn;simp only[hn0.1,lE,nR]at hnl;subst hnl;have hrun:(Builtin.append_ #[t,t] ty #[.slice a0 0 0,.slice (some ⟨b,off,none⟩) ys.length c]).run P w=.ok (.slice (some ⟨w.heap.size,0,none⟩) (0+ys.length) (grownCap w (0+ys.length) 0 ei.e))
      (w.drew.alloc (.cells (([]:List Value).toArray++us.toArray++Builtin.zeroCells z.cells (grownCap w (0+ys.length) 0 ei.e-(0+ys.length))) ei.e)):=by
     cases a0 with
     | none=>
      have:=run_append_nil (P:=P) w t ty ei.e inf z hu hi hz ⟨b,off,none⟩ ys.length c us hul hcell (by omega) (by omega) (by rw[<- hby];rw[kt]at hb;omega);simpa using this
     | some a0=>
      have:=mc (P:=P) w t ty ei.e inf z hu hi hz a0 0 0 [] (by simp) (by simp) ⟨b,off,none⟩ ys.length c us hul hcell (by omega) (by omega) (mr (by omega) (by rw[<- hby];exact hb));simpa using this
    have hgg:=hgen (grownCap w (0+ys.length) 0 ei.e) [] (by simp[Gf]) (λb cur k u hb=>by rw[hbn]at hb;cases hb) (hge 0 ei.e) (hlem 0 ei.e (by simp[maxLen];omega));exact⟨_,_,_,_,_,hk,hrun,hgg.1,by simpa [Ae] using hfin _,hgg.2⟩
   ·obtain⟨hnF,cur,hcur,hcs,hlc,hmaxc,hcells⟩:=hok.some b0 Jd;by_cases hroom:n+ys.length<=o.cap
    ·have hfit:n*inf.size+us.length<=cur.size:=by rw[hul,hcs,Gk,hsz,<- kP];exact kS _ hroom
     have hrun:=run_append_room (P:=P) w t ty ei.e inf hu hi b0 n o.cap cur (by rw[<- hel];exact hcur) ⟨b,off,none⟩ ys.length c us hul hcell hone hroom hfit;have hset':=hr.PE (k:=k) (o':=⟨⟨g+1,o.row.elem,o.row.size,o.row.xs.take n++ys⟩,some b0,o.cap,o.more⟩) ho (w':=w.setRow b0 (cur.toList.take (n*inf.size)++us++cur.toList.drop (n*inf.size+us.length)).toArray) (by rw[Jd];exact HY.setRow _ _ _) (by simp[hg]) rfl (λe=>by simp[hg]at e) (λg hg=>by
       rcases hg with hg|hg
       ·simp only[jh]at hg;exact .inl (.inl (by rw[Jd,hg]))
       ·exact .inl (.inr hg)) (λhmono=>by
      have hdp:KO (w.setRow b0 (cur.toList.take (n*inf.size)++us++cur.toList.drop (n*inf.size+us.length)).toArray) ⟨⟨g+1,o.row.elem,o.row.size,o.row.xs.take n++ys⟩,some b0,o.cap,o.more⟩:=by
       obtain⟨D,d1,d2,d3⟩:=hok.deep;refine⟨D,d1,d2,λb' hb' cur' el l hcur' i y j e s' zs hy hc=>?_⟩;simp only[jh]at hb' hy⊢;subst hb';rw[nS w b0 cur _ _ _ hcur]at hcur';cases hcur';have hin:i<n:=by
        rcases la i n with h|h
        ·exact h
        ·rw[jt (by omega)]at hy;have:=hleaf y (je hy);have:=this.2 _ (je hc);simp[AV.leaf]at this
       rw[jr (by omega),kL,jm hin]at hy;obtain⟨u,q1,q2⟩:=d3 b0 Jd cur _ _ hcur i y j e s' zs hy hc;have hjl:j<o.row.size:=by rw[<- (hok.lens y (je hy)).1];exact (jg.1 hc).1
       have hkl:i*o.row.size+j<n*inf.size:=by
        have:(i+1)*o.row.size<=n*o.row.size:=kS _ hin;rw[kP]at this;rw[<- hsz,<- Gk];omega
       refine⟨u,?_,MH (λ_ h=>h) (λc hcm=>setRow_other w b0 c _ λe=>(hok.mo _ (d1 _ _ _ hcm)).2.2 (by rw[Jd,e])) _ u q2⟩;rw[J6 hfit,jm hkl];exact q1
      refine⟨hok.pos,λy hy=>?_,by simp,λb hb'=>?_,λg hg=>⟨(hok.mo g hg).1,by simpa using (hok.mo g hg).2.1,by rw[<- Jd];exact (hok.mo g hg).2.2⟩,hdp⟩
      ·rcases kJ.1 hy with h|h
       ·simp only[Gk];exact hlens y h
       ·simp only[Gk];exact⟨(hleaf y h).1,λc hc=>D0 ((hleaf y h).2 c hc)⟩
      ·simp only[jh]at hb';subst hb';refine⟨hnF,_,nS w b0 cur _ _ _ hcur,?_,by simp only[kD,htk];exact hroom,hmaxc,λi y hy j c hc=>?_⟩
       ·simp only[mO,kD,lu,mI,ly]at hfit⊢;rw[<- hcs];omega
       ·simp only at hy⊢;rw[J6 hfit];by_cases hin:i<n
        ·rw[jr (by omega),kL,jm hin]at hy;obtain⟨u,f1,f2⟩:=hcells i y hy j c hc;have hjl:j<o.row.size:=by rw[<- (hok.lens y (je hy)).1];exact (jg.1 hc).1
         have:(i+1)*o.row.size<=n*o.row.size:=kS _ hin;rw[kP]at this;refine⟨u,?_,hmono _ _ f2⟩;rw[jm (by rw[<- hsz,<- Gk];omega)];exact f1
        ·rw[jt (by omega),htk]at hy;obtain⟨u,f1,f2⟩:=hrep.2 _ y hy j c hc;refine⟨u,?_,hmono _ _ f2⟩;have hlt:=(jg.1 f1).1;have h3:n*o.row.size<=i*o.row.size:=kS _ (by omega);rw[Nat.sub_mul]at f1 hlt;rw[<- Gk]at f1 hlt;rw[jn (by rw[<- hsz,<- Gk];omega),jm (by rw[<- hsz,<- Gk];omega),<- f1];congr 1;rw[<- hsz,<- Gk];omega)
     refine⟨_,_,_,_,_,hk,hrun,hset'.1,?_,hset'.2.1⟩;simp only[Ae];exact⟨_,hset _,by simp,⟨_,_,_,rfl⟩,λ_=>⟨by simp only[kD,htk];omega,.inr ⟨_,rfl,by simp[hnw]⟩⟩⟩
    ·
     have hold:∀(i:Nat) y,(o.row.xs.take n)[i]?=some y->Md F w os b0 (0+i*ei.size) y:=λi y hy=>by
      rw[kL]at hy;split at hy
      ·have:=hr.Nw ho Jd hy;rw[Gk]at this;simpa using this
      ·cases hy
     obtain⟨olds,h1,h2,_,h4⟩:=Pn (λx hx=>(hlens x hx).1) hold;have hrun:=mc (P:=P) w t ty ei.e inf z hu hi hz ⟨b0,0,none⟩ n o.cap olds (by rw[h1,htk,hsz]) h2 ⟨b,off,none⟩ ys.length c us hul hcell (by omega) (by omega) (mr (by omega) (by rw[<- hby];exact hb));have hgg:=hgen (grownCap w (n+ys.length) o.cap ei.e) olds ⟨h1,λi y hy j c hc=>by obtain⟨u,f1,_,f2⟩:=h4 i y hy j c hc;exact⟨u,f1,f2⟩⟩ (λb cur' k u hb' hcur' hk q=>by
      rw[Jd]at hb';cases hb';rw[hcur]at hcur';cases hcur';have hkl:k<olds.length:=by rw[h1,htk];exact hk
      have:=h2 k _ (jl hkl);rw[DE,ml w b0 _ cur _ _ hcur,kt,q]at this;rw[jl hkl,<- this]) (hge o.cap ei.e) (hlem o.cap ei.e (by simp[maxLen];omega))
     exact⟨_,_,_,_,_,hk,hrun,hgg.1,by simpa [Ae] using hfin _,hgg.2⟩
 | _=>exact h.elim
end Go.Abs
