import Derived.Test.YtihdgoiebmfapaaGreatAbsRH
set_option linter.all false
namespace Go.Abs
open Go
def iz (b len:Nat)(W:World):Prop:=∃ad cap,W.cell? ⟨b,0,none⟩=some (.slice ad len cap)/\(0<len->∃b' o',ad=some ⟨b',o',none⟩/\∀i,i<len->∃c0 c1 c2,W.cell? ⟨b',o'+i*3,none⟩=some c0/\W.cell? ⟨b',o'+i*3+1,none⟩=some c1/\W.cell? ⟨b',o'+i*3+2,none⟩=some c2)
def ie (b len:Nat)(W:World)(i:Nat)(v:Value):Prop:=∃b' o' cap c0 c1 c2,W.cell? ⟨b,0,none⟩=some (.slice (some ⟨b',o',none⟩) len cap)/\W.cell? ⟨b',o'+i*3,none⟩=some c0/\W.cell? ⟨b',o'+i*3+1,none⟩=some c1/\W.cell? ⟨b',o'+i*3+2,none⟩=some c2/\v=.agg #[c0,c1,c2]
section
variable {P : Program} {F : Nat -> Prop} {os : List Own} {n : Nat} {e0 : Nat -> AV} {st : List Row} {a : Act} {w : World} {k : Nat} {α : Type} {l : List α} {enc : α -> List AV} {t : Nat} {gf : FuncId} {id : Nat} {T : TypeId}
theorem Rel.boxed (hr:Rel F os ⟨n,e0,st⟩ a w)(he:e0 t=.fn gf [.ptr id 0 0 0])(tv:st[id]?=some ⟨0,T,1,[[.sl (l.map enc)]]⟩):
  ∃b,a.tmps.getD t undef=.func (.func gf) #[] #[.pointer (some ⟨b,0,none⟩)]/\∃u,w.cell? ⟨b,0,none⟩=some u/\Ab F w os (.sl (l.map enc)) u:=by
 have h:=hr.env t;rw[show (⟨n,e0,st⟩:St).env t=.fn gf [.ptr id 0 0 0] from he]at h;simp only[Ab,Br]at h;obtain⟨us,hv,u,xR,rfl,hu,rfl⟩:=h;obtain⟨o,ho,hg,_,h1⟩:=hu;obtain⟨o',uw,hrow'⟩:=hr.row tv;rw[ho]at uw;cases uw;obtain⟨_,_,b,hb,hu⟩:=h1 (by rw[hrow']);refine⟨b,?_,?_⟩
 .rw[hv,hu];simp
 .have hc:=hr.Oz ho hb (i:=0) (x:=[.sl (l.map enc)]) (by rw[hrow'];rfl);obtain⟨u,h1,_,h2⟩:=hc 0 _ rfl;exact⟨u,by simpa using h1,h2⟩
theorem Rel.oe (hr:Rel F os ⟨n,e0,st⟩ a w)(he:e0 t=.fn gf [.ptr id 0 0 0])(tv:st[id]?=some ⟨0,T,1,[[.sl (l.map enc)]]⟩)(hl :∀x,(enc x).length=3){b:Nat}(hb:a.tmps.getD t undef=.func (.func gf) #[] #[.pointer (some ⟨b,0,none⟩)]):iz b l.length w:=by
 obtain⟨b',h1,u,h2,h3⟩:=hr.boxed he tv;rw[hb]at h1;obtain rfl:b=b':=by simpa using h1
 simp only[Ab,pR]at h3;obtain⟨ad,cap,rfl,_,h4⟩:=h3;refine⟨ad,cap,h2,λhl0=>?_⟩;obtain⟨b',o',size,h5,_,h6,h7⟩:=h4 (by intro e;rw[sF]at e;rw[e]at hl0;simp at hl0);refine⟨b',o',h5,λi hi=>?_⟩;have ue:size=3:=by
  obtain⟨x,hx⟩ :∃x,l[0]?=some x:=⟨l[0],pF hl0⟩
  have:=h6 (enc x) (rC (ov hx));rw[hl]at this;exact this.symm
 subst ue;have hx:(l.map enc)[i]?=some (enc l[i]):=by rw[pB,pF hi];rfl
 have hc:=Iv h6 h7 i _ hx;have hli:=hl l[i];have g:∀j,j<3->∃u,w.cell? ⟨b',o'+i*3+j,none⟩=some u:=λj hj=>by
  obtain⟨u,e1,_⟩:=KZ hc j _ (pF (by omega));exact⟨u,e1⟩
 obtain⟨c0,e0⟩:=g 0 (by omega);obtain⟨c1,e1⟩:=g 1 (by omega);obtain⟨c2,e2⟩:=g 2 (by omega);exact⟨c0,c1,c2,e0,e1,e2⟩
theorem Rel.om (hr:Rel F os ⟨n,e0,st⟩ a w)(he:e0 t=.fn gf [.ptr id 0 0 0])(tv:st[id]?=some ⟨0,T,1,[[.sl (l.map enc)]]⟩)(hl :∀x,(enc x).length=3){b:Nat}(hb:a.tmps.getD t undef=.func (.func gf) #[] #[.pointer (some ⟨b,0,none⟩)]){i:Nat}{v:Value}(hv:ie b l.length w i v){x:α}(hx:l[i]?=some x):Ab F w os (.agg (enc x)) v:=by
 obtain⟨b',h1,u,h2,h3⟩:=hr.boxed he tv;rw[hb]at h1;obtain rfl:b=b':=by simpa using h1
 obtain⟨bb,oo,cap,c0,c1,c2,q0,q1,q2,q3,rfl⟩:=hv;rw[h2]at q0;obtain rfl:u=_:=by simpa using q0
 have vk:=(pA.1 hx).1;simp only[Ab,pR]at h3⊢;obtain⟨ad,cap',hu,_,h4⟩:=h3;obtain⟨b',o',size,h5,hF,h6,h7⟩:=h4 (by intro e;rw[sF]at e;rw[e]at vk;simp at vk);have ue:size=3:=by
  have:=h6 (enc x) (rC (ov hx));rw[hl]at this;exact this.symm
 subst ue;rw[h5]at hu;simp only[Value.slice.injEq,pC,Addr.mk.injEq]at hu;obtain⟨⟨rfl,rfl,_⟩,_,rfl⟩:=hu;have xS:(l.map enc)[i]?=some (enc x):=by rw[pB,hx];rfl
 have hc:=Iv h6 h7 i _ xS;have hli:=hl x;refine⟨[c0,c1,c2],rfl,Db (by simp[hli]) λj y u hy hu=>?_⟩;obtain⟨u',e1,_,e3⟩:=KZ hc j y hy;have hj:j<3:=by have:=(pA.1 hy).1;omega
 have:u'=u:=by
  match j,hj with
  |0,_=>rw[qo,q1]at e1;simp at hu e1;rw[<- hu,e1]
  |1,_=>rw[q2]at e1;simp at hu e1;rw[<- hu,e1]
  |2,_=>rw[q3]at e1;simp at hu e1;rw[<- hu,e1]
 subst this;exact ZK os e3
theorem Q3.range {g:Operand}{p1 p2:Tmp}{assign body:Code}{S:Nat->List Row}{K:St->Prop}
  (hg:g=.tmp t) (he:e0 t=.fn gf [.ptr id 0 0 0]) (eg :∀args w,(callFunc gf args).run P w=.ok (.enter gf args) w)
  (zo :∀b,dh P gf #[.pointer (some ⟨b,0,none⟩)] l.length (iz b l.length) (ie b l.length))
  (tv :∀i,(S i)[id]?=some ⟨0,T,1,[[.sl (l.map enc)]]⟩) (hl :∀x,(enc x).length=3) {k':Nat} (hk:k<=k') (he0 :∀t,early k' (e0 t)) (hp1:p1<n) (hp2:p2<n)
  (zp :∀i x lb,l[i]?=some x->Oh P lb k' assign (LQ (λs1=>Oh P lb k' body (λe s2=>e=.normal/\s2.st=S i) s1) (λ_ _=>False)) ⟨n,DQ (DQ e0 p1 (i64 (i:Int))) p2 (.agg (enc x)),S (i+1)⟩)
  (hK:K ⟨n,e0,S 0⟩):Q3 P k (.rangeFunc g #[p1,p2] assign body) (LQ K λ_ _=>False) ⟨n,e0,S l.length⟩:=by
 intro F os a w hr;subst hg;obtain⟨b,hb,_⟩:=hr.boxed he (tv l.length);refine gH (xs:=λi=>.agg ((l[i]?.map enc).getD [])) (lb:=#[.pointer (some ⟨b,0,none⟩)]) (Rd:=iz b l.length) (El:=ie b l.length) hb eg hr (zo b) (λi F' os' W hR=>hR.oe he (tv i) hl hb) (λi F' os' W v hi hR hv=>?_) he0 hp1 hp2 (λi lb hi=>?_) ?_
 .have hx:l[i]?=some l[i]:=pF hi;have:=hR.om he (tv (i+1)) hl hb hv hx;rw[hx];exact this
 .have hx:l[i]?=some l[i]:=pF hi;have:=zp i _ lb hx;rw[hx];exact this
 .intro D F' os' W hD hR hE hd hF ho;have ha:({ a with defers:=[] }:Act)=a:=by
   have:=hr.defers;cases a;simp only at this;rw[this]
  exact⟨D,hD,_,F',os',hK,by show Rel F' os' ⟨n,e0,S 0⟩ { a with defers:=[] } W;rw[ha];exact hR,hE.nS hk,by simp[UC,hr.defers],hd,hF,ho⟩
end
end Go.Abs
