import Derived.Test.YtihdgoiebmfapaaGreatAbsRH
set_option linter.all false
namespace Go.Abs
open Go
def de (b len:Nat)(W:World):Prop:=∃ad cap,W.cell? ⟨b,0,none⟩=some (.slice ad len cap)/\(0<len->∃b' o',ad=some ⟨b',o',none⟩/\∀i,i<len->∃c0 c1 c2,W.cell? ⟨b',o'+i*3,none⟩=some c0/\W.cell? ⟨b',o'+i*3+1,none⟩=some c1/\W.cell? ⟨b',o'+i*3+2,none⟩=some c2)
def eA (b len:Nat)(W:World)(i:Nat)(v:Value):Prop:=∃b' o' cap c0 c1 c2,W.cell? ⟨b,0,none⟩=some (.slice (some ⟨b',o',none⟩) len cap)/\W.cell? ⟨b',o'+i*3,none⟩=some c0/\W.cell? ⟨b',o'+i*3+1,none⟩=some c1/\W.cell? ⟨b',o'+i*3+2,none⟩=some c2/\v=.agg #[c0,c1,c2]
section
variable {P : Program} {F : Nat -> Prop} {os : List Own} {n : Nat} {e0 : Nat -> AV} {st : List Row} {a : Act} {w : World} {k : Nat} {α : Type} {l : List α} {enc : α -> List AV} {t : Nat} {gf : FuncId} {id : Nat} {T : TypeId}
theorem Rel.boxed (hr:Rel F os ⟨n,e0,st⟩ a w)(he:e0 t=.fn gf [.ptr id 0 0 0])(oY:st[id]?=some ⟨0,T,1,[[.sl (l.map enc)]]⟩):
  ∃b,a.tmps.getD t undef=.func (.func gf) #[] #[.pointer (some ⟨b,0,none⟩)]/\∃u,w.cell? ⟨b,0,none⟩=some u/\Ae F w os (.sl (l.map enc)) u:=by
 have h:=hr.env t;rw[show (⟨n,e0,st⟩:St).env t=.fn gf [.ptr id 0 0 0] from he]at h;simp only[Ae,Br]at h;obtain⟨us,hv,u,rN,rfl,hu,rfl⟩:=h;obtain⟨o,ho,hg,_,h1⟩:=hu;obtain⟨o',pQ,hrow'⟩:=hr.row oY;rw[ho]at pQ;cases pQ;obtain⟨_,_,b,hb,hu⟩:=h1 (by rw[hrow']);refine⟨b,?_,?_⟩
 ·rw[hv,hu];simp
 ·have hc:=hr.Np ho hb (i:=0) (x:=[.sl (l.map enc)]) (by rw[hrow'];rfl);obtain⟨u,h1,_,h2⟩:=hc 0 _ rfl;exact⟨u,by simpa using h1,h2⟩
theorem Rel.jV (hr:Rel F os ⟨n,e0,st⟩ a w)(he:e0 t=.fn gf [.ptr id 0 0 0])(oY:st[id]?=some ⟨0,T,1,[[.sl (l.map enc)]]⟩)(hl :∀x,(enc x).length=3){b:Nat}(hb:a.tmps.getD t undef=.func (.func gf) #[] #[.pointer (some ⟨b,0,none⟩)]):de b l.length w:=by
 obtain⟨b',h1,u,h2,h3⟩:=hr.boxed he oY;rw[hb]at h1;obtain rfl:b=b':=by simpa using h1
 simp only[Ae,kB]at h3;obtain⟨ad,cap,rfl,_,h4⟩:=h3;refine⟨ad,cap,h2,λvb=>?_⟩;obtain⟨b',o',size,h5,_,h6,h7⟩:=h4 (by intro e;rw[mX]at e;rw[e]at vb;simp at vb);refine⟨b',o',h5,λi hi=>?_⟩;have pL:size=3:=by
  obtain⟨x,hx⟩ :∃x,l[0]?=some x:=⟨l[0],jl vb⟩
  have:=h6 (enc x) (lD (je hx));rw[hl]at this;exact this.symm
 subst pL;have hx:(l.map enc)[i]?=some (enc l[i]):=by rw[ji,jl hi];rfl
 have hc:=IH h6 h7 i _ hx;have hli:=hl l[i];have g:∀j,j<3->∃u,w.cell? ⟨b',o'+i*3+j,none⟩=some u:=λj hj=>by
  obtain⟨u,e1,_⟩:=Jl hc j _ (jl (by omega));exact⟨u,e1⟩
 obtain⟨c0,e0⟩:=g 0 (by omega);obtain⟨c1,e1⟩:=g 1 (by omega);obtain⟨c2,e2⟩:=g 2 (by omega);exact⟨c0,c1,c2,e0,e1,e2⟩
theorem Rel.jX (hr:Rel F os ⟨n,e0,st⟩ a w)(he:e0 t=.fn gf [.ptr id 0 0 0])(oY:st[id]?=some ⟨0,T,1,[[.sl (l.map enc)]]⟩)(hl :∀x,(enc x).length=3){b:Nat}(hb:a.tmps.getD t undef=.func (.func gf) #[] #[.pointer (some ⟨b,0,none⟩)]){i:Nat}{v:Value}(hv:eA b l.length w i v){x:α}(hx:l[i]?=some x):Ae F w os (.agg (enc x)) v:=by
 obtain⟨b',h1,u,h2,h3⟩:=hr.boxed he oY;rw[hb]at h1;obtain rfl:b=b':=by simpa using h1
 obtain⟨bb,oo,cap,c0,c1,c2,q0,q1,q2,q3,rfl⟩:=hv;rw[h2]at q0;obtain rfl:u=_:=by simpa using q0
 have qG:=(jg.1 hx).1;simp only[Ae,kB]at h3⊢;obtain⟨ad,cap',hu,_,h4⟩:=h3;obtain⟨b',o',size,h5,hF,h6,h7⟩:=h4 (by intro e;rw[mX]at e;rw[e]at qG;simp at qG);have pL:size=3:=by
  have:=h6 (enc x) (lD (je hx));rw[hl]at this;exact this.symm
 subst pL;rw[h5]at hu;simp only[Value.slice.injEq,jh,Addr.mk.injEq]at hu;obtain⟨⟨rfl,rfl,_⟩,_,rfl⟩:=hu;have rO:(l.map enc)[i]?=some (enc x):=by rw[ji,hx];rfl
 have hc:=IH h6 h7 i _ rO;have hli:=hl x;refine⟨[c0,c1,c2],rfl,DZ (by simp[hli]) λj y u hy hu=>?_⟩;obtain⟨u',e1,_,e3⟩:=Jl hc j y hy;have hj:j<3:=by have:=(jg.1 hy).1;omega
 have:u'=u:=by
  match j,hj with
  | 0,_=>rw[mA,q1]at e1;simp at hu e1;rw[<- hu,e1]
  | 1,_=>rw[q2]at e1;simp at hu e1;rw[<- hu,e1]
  | 2,_=>rw[q3]at e1;simp at hu e1;rw[<- hu,e1]
 subst this;exact Wr os e3
theorem PS.range {g:Operand}{p1 p2:Tmp}{assign body:Code}{S:Nat->List Row}{K:St->Prop}
  (hg:g=.tmp t) (he:e0 t=.fn gf [.ptr id 0 0 0]) (eg :∀args w,(callFunc gf args).run P w=.ok (.enter gf args) w)
  (tU :∀b,aB P gf #[.pointer (some ⟨b,0,none⟩)] l.length (de b l.length) (eA b l.length))
  (oY :∀i,(S i)[id]?=some ⟨0,T,1,[[.sl (l.map enc)]]⟩) (hl :∀x,(enc x).length=3) {k':Nat} (hk:k<=k') (vF :∀t,early k' (e0 t)) (hp1:p1<n) (yE:p2<n)
  (tV :∀i x lb,l[i]?=some x->NY P lb k' assign (KF (λs1=>NY P lb k' body (λe s2=>e=.normal/\s2.st=S i) s1) (λ_ _=>False)) ⟨n,EC (EC e0 p1 (i64 (i:Int))) p2 (.agg (enc x)),S (i+1)⟩)
  (hK:K ⟨n,e0,S 0⟩):PS P k (.rangeFunc g #[p1,p2] assign body) (KF K λ_ _=>False) ⟨n,e0,S l.length⟩:=by
 intro F os a w hr;subst hg;obtain⟨b,hb,_⟩:=hr.boxed he (oY l.length);refine bq (xs:=λi=>.agg ((l[i]?.map enc).getD [])) (lb:=#[.pointer (some ⟨b,0,none⟩)]) (Rd:=de b l.length) (El:=eA b l.length) hb eg hr (tU b) (λi F' os' W hR=>hR.jV he (oY i) hl hb) (λi F' os' W v hi hR hv=>?_) vF hp1 yE (λi lb hi=>?_) ?_
 ·have hx:l[i]?=some l[i]:=jl hi;have:=hR.jX he (oY (i+1)) hl hb hv hx;rw[hx];exact this
 ·have hx:l[i]?=some l[i]:=jl hi;have:=tV i _ lb hx;rw[hx];exact this
 ·intro D F' os' W hD hR hE hd hF ho;have ha:({ a with defers:=[] }:Act)=a:=by
   have:=hr.defers;cases a;simp only at this;rw[this]
  exact⟨D,hD,_,F',os',hK,by show Rel F' os' ⟨n,e0,S 0⟩ { a with defers:=[] } W;rw[ha];exact hR,hE.iQ hk,by simp[Rq,hr.defers],hd,hF,ho⟩
end
end Go.Abs
