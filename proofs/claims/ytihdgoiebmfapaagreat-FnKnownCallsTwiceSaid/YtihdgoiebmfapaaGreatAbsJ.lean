import Derived.Test.YtihdgoiebmfapaaGreatAbsI
set_option linter.all false
namespace Go.Abs
open Go
variable {P : Program} {F : Nat -> Prop} {os : List Own} {s : St} {a : Act} {w : World} {k : Nat} {ops : Array Oper} {md : Region.Mode}
theorem Vi {o:Oper}{v:AV}(hr:Rel F os s a w)(hd:DM s.n o.dst=true)(h:KT P o s (·=v)){next:Act->World->Prop}{Q:Exit->Act->World->Prop}
  (hn :∀a' w',Step k s.n F os w (·=s.put o.dst v) a' w'->next a' w'):o.wp P a w next Q:=by
 have hq:I2 P s o.op (·=v)->o.wp P a w next Q:=λh=>by
  obtain⟨x,u,rfl,h2,h3⟩:=QE hr h;unfold Oper.wp;rw[h2];exact hn _ _ ⟨_,F,os,by cases o.dst<;>rfl,rfl,hr.put hd h3,Ext.refl _ _ _ _⟩
 unfold KT at h;split at h
 ·obtain⟨v',h1,rfl⟩:=h;exact h1 s rfl (λ_ _=>rfl) hd k F os a w hr next Q hn
 ·exact hq h
def FV (ops:Array Oper)(o:Oper)(s:St):Option Bool:=
 match o.guard with
 | none=>some true
 | some (j,want)=>match (ops[j]?).bind (·.dst) with
  | some t=>match s.env t with
   | .bool b=>some (b==want)
   | .un=>some false
   | _=>none
  | none=>none
theorem MN (hr:Rel F os s a w)(mO :∀o∈ops.toList,DM s.n o.dst=true){o:Oper}{b:Bool}(h:FV ops o s=some b):Region.wanted o (yielded ops a.tmps)=b:=by
 unfold FV at h;unfold Region.wanted;split at h
 ·rename_i hg;rw[hg];simpa using h
 ·rename_i j want hg;rw[hg];dsimp only;split at h
  ·rename_i t ht;split at h
   ·rename_i b' hb;simp only[ff]at h;have hj:(ops[j]?).map (·.dst)=some (some t):=by
     cases ho:ops[j]? with
     | none=>rw[ho]at ht;cases ht
     | some oj=>rw[ho]at ht;simpa using ht
    have lh:t<s.n:=by
     cases ho:ops[j]? with
     | none=>rw[ho]at ht;cases ht
     | some oj=>
      rw[ho]at ht;simp only[fZ]at ht;have:=mO oj (by have:=fc (l:=ops.toList) (i:=j) (by simpa using ho);exact this);rw[ht]at this;simpa [DM] using this
    rw[SU hr hj lh hb,<- h];cases b'<;>cases want<;>rfl
   ·rename_i hb;simp only[ff]at h;have hj:(ops[j]?).map (·.dst)=some (some t):=by
     cases ho:ops[j]? with
     | none=>rw[ho]at ht;cases ht
     | some oj=>rw[ho]at ht;simpa using ht
    have lh:t<s.n:=by
     cases ho:ops[j]? with
     | none=>rw[ho]at ht;cases ht
     | some oj=>
      rw[ho]at ht;simp only[fZ]at ht;have:=mO oj (by have:=fc (l:=ops.toList) (i:=j) (by simpa using ho);exact this);rw[ht]at this;simpa [DM] using this
    rw[Sk hr hj lh hb,<- h];rfl
   ·cases h
  ·cases h
def YA (P:Program)(ops:Array Oper)(o:Oper)(v:AV)(s:St):Prop:=
 (FV ops o s=some true/\KT P o s (·=v))∨(FV ops o s=some false/\v=.un)
def Ox (P:Program)(ops:Array Oper)(i:Nat)(K:St->Prop)(s:St):Prop:=
 match ops[i]? with
 | none=>K s
 | some o=>∃v,YA P ops o v s/\K (s.put o.dst v)
theorem Yg {i:Nat}{K K':St->Prop}(h :∀s,K s->K' s)(hh:Ox P ops i K s):Ox P ops i K' s:=by
 unfold Ox at *;split
 ·exact h _ (by simpa [*] using hh)
 ·rename_i o ho;simp only[ho]at hh;obtain⟨v,h1,h2⟩:=hh;exact⟨v,h1,h _ h2⟩
theorem YA.keep {oi:Oper}{v:AV}{d:Option Tmp}{u:AV}(hy:YA P ops oi v s)(hd :∀t,d=some t->t ∉ oi.looksAt ops):YA P ops oi v (s.put d u):=by
 have ue:∀x∈oi.op.operands,(s.put d u).ev x=s.ev x:=λx hx=>TK λt ht uf=>hd t ht (by
  subst uf;exact gz _ (hU.2 ⟨.tmp t,by simpa using hx,rfl⟩))
 have hw:FV ops oi (s.put d u)=FV ops oi s:=by
  unfold FV;cases hg:oi.guard with
  | none=>rfl
  | some p=>
   obtain⟨j,want⟩:=p;dsimp only;cases ht:(ops[j]?).bind (·.dst) with
   | none=>rfl
   | some t=>
    dsimp only;have:(s.put d u).env t=s.env t:=TK (x:=.tmp t) λt' rF e=>hd t' rF (by
     cases e;exact jB _ (by simp[hg,ht]))
    rw[this]
 unfold YA at *;rw[hw];exact hy.imp (λh=>⟨h.1,Nk (ZA _ _ _) ue h.2⟩) id
theorem ZX {j:Nat}{oi oj:Oper}{v:AV}(hj:ops[j]?=some oj)(wg:oi.apart ops oj=true){K:St->Prop}(hy:YA P ops oi v s)(h:Ox P ops j K (s.put oi.dst v)):
  Ox P ops j (λs'=>YA P ops oi v s'/\K (s'.put oi.dst v)) s:=by
 obtain⟨h1,h2,h3⟩:=Oper.apart_spec wg;unfold Ox at *;simp only[hj] at *;obtain⟨u,hu,hK⟩:=h;refine⟨u,?_,hy.keep h3,by rw[<- put_comm s v u h2];exact hK⟩;have ue:∀x∈oj.op.operands,s.ev x=(s.put oi.dst v).ev x:=λx hx=>(TK λt ht uf=>h1 t ht (by
  subst uf;exact gz _ (hU.2 ⟨.tmp t,by simpa using hx,rfl⟩))).symm
 have hw:FV ops oj s=FV ops oj (s.put oi.dst v):=by
  unfold FV;cases hg:oj.guard with
  | none=>rfl
  | some p=>
   obtain⟨j,want⟩:=p;dsimp only;cases ht:(ops[j]?).bind (·.dst) with
   | none=>rfl
   | some t=>
    dsimp only;have:(s.put oi.dst v).env t=s.env t:=TK (x:=.tmp t) λt' rF e=>h1 t' rF (by
     cases e;exact jB _ (by simp[hg,ht]))
    rw[this]
 unfold YA at *;rw[hw];exact hu.imp (λh=>⟨h.1,Nk (ZA _ _ _).symm ue h.2⟩) id
def UO (P:Program)(md:Region.Mode)(ops:Array Oper)(n:Nat)(L:Array Bool->St->Prop):Nat->Array Bool->St->Prop
 | 0,lK,s=>L lK s
 | f+1,lK,s=>Region.ready md ops lK≠[]/\∀i∈Region.ready md ops lK,i<n/\Ox P ops i (UO P md ops n L f (lK.setIfInBounds i true)) s
theorem VK {i:Nat}{K:St->Prop}(mO :∀o∈ops.toList,DM s.n o.dst=true)(hr:Rel F os s a w)(h:Ox P ops i K s){next:Act->World->Prop}{Q:Exit->Act->World->Prop}
  (hn :∀a' w',Step k s.n F os w K a' w'->next a' w'):wpOp P ops Q i next a w:=by
 unfold Ox at h;unfold wpOp;split
 ·rename_i ho;simp only[ho]at h;exact hn a w ⟨s,F,os,rfl,h,hr,Ext.refl _ _ _ _⟩
 ·rename_i o ho;simp only[ho]at h;obtain⟨v,hy,hK⟩:=h;have qZ:=mO o (by have:=fc (l:=ops.toList) (i:=i) (by simpa using ho);exact this);rcases hy with ⟨hw,hs⟩|⟨hw,rfl⟩
  ·rw[fq (MN hr mO hw)];refine .inl (Vi (k:=k) hr qZ hs ?_);rintro a' w' ⟨s',F',os',h1,rfl,h3,h4⟩;exact hn a' w' ⟨_,F',os',h1,hK,h3,h4⟩
  ·rw[fr (by rw[MN hr mO hw];simp)];exact hn _ w ⟨_,F,os,by cases o.dst<;>rfl,hK,hr.un qZ,Ext.refl _ _ _ _⟩
theorem Lw {n g N:Nat}{L:Array Bool->St->Prop}{Q':Exit->Act->World->Prop}{F0:Nat->Prop}{os0:List Own}{w0:World}(mO :∀o∈ops.toList,DM N o.dst=true)
  (hL :∀lK s F os a w,s.n=N->L lK s->Rel F os s a w->Ext F0 os0 w0 F os w k->wpAny P md ops Q' g lK a w) :
  ∀(f:Nat) (lK:Array Bool) (s:St) F os a w,s.n=N->UO P md ops n L f lK s->Rel F os s a w->Ext F0 os0 w0 F os w k->wpAny P md ops Q' (f+g) lK a w
 | 0,lK,s,F,os,a,w,hn,h,hr,he=>by rw[iJ];exact hL _ _ _ _ _ _ hn h hr he
 | f+1,lK,s,F,os,a,w,hn,h,hr,he=>by
  rw[show f+1+g=(f+g)+1 by omega];refine⟨λh0=>absurd h0 h.1,λi hi=>?_⟩;refine VK (k:=k) (by rw[hn];exact mO) hr (h.2 i hi).2 ?_;rintro a' w' ⟨s',F',os',h1,h2,h3,h4⟩;exact Lw mO hL f _ s' F' os' a' w' (h1.trans hn) h2 h3 (he.trans h4)
theorem Xg {n i:Nat}{oi:Oper}{v:AV}{L:Array Bool->St->Prop}(hi:ops[i]?=some oi)
  (mu :∀lK,HeadInv md ops n lK->∀i,i<n->lK.getD i true=false->∀t,n<=t->t ∉ Region.ready md ops lK) (mX:i<n)
  (rG :∀lK s,L lK s->∀j∈Region.ready md ops lK,n<=j) :
  ∀(f:Nat) (lK:Array Bool) (s:St),HeadInv md ops n lK->
   (∀j oj,ops[j]?=some oj->j≠i->lK.getD j true=false->(∀e∈oj.after,Region.binds md e=true->e.on≠i)->oi.apart ops oj=true)->
   i∈Region.ready md ops lK->YA P ops oi v s->
   UO P md ops n L f (lK.setIfInBounds i true) (s.put oi.dst v)->UO P md ops n L (f+1) lK s:=by
 have oD:∀{K:St->Prop} {s:St},YA P ops oi v s->K (s.put oi.dst v)->Ox P ops i K s:=λ{K s} hy h=>by
  unfold Ox;simp only[hi];exact⟨v,hy,h⟩
 intro f
 induction f with
 | zero=>
  intro lK s inv _ hr hy H;have nV:=(jS.1 hr).1;refine⟨λh=>(by rw[h]at hr;cases hr),λj hj=>?_⟩;have qo:j<n:=by
   rcases iY j n with h|h
   ·exact h
   ·exact absurd hj (mu _ inv i mX nV j h)
  refine⟨qo,?_⟩;by_cases nR:j=i
  ·subst nR;exact oD hy H
  ·have:=rG _ _ H j (jP hj nR);omega
 | succ f ih=>
  intro lK s inv nj hr hy H;have nV:=(jS.1 hr).1;refine⟨λh=>(by rw[h]at hr;cases hr),λj hj=>?_⟩;have qo:j<n:=by
   rcases iY j n with h|h
   ·exact h
   ·exact absurd hj (mu _ inv i mX nV j h)
  refine⟨qo,?_⟩;by_cases nR:j=i
  ·subst nR;exact oD hy H
  ·have h1:=(H.2 j (jP hj nR)).2;obtain⟨oW,oj,nk,mY⟩:=jS.1 hj;have qa:∀e∈oj.after,Region.binds md e=true->e.on≠i:=λe he hb heq=>by
    have h1:=mY e he hb;rw[heq,getD_both nV]at h1;cases h1
   have h2:=ZX nk (nj j oj nk nR oW qa) hy h1;have sn :∀k ok,ops[k]?=some ok->k≠i->(lK.setIfInBounds j true).getD k true=false->
     (∀e∈ok.after,Region.binds md e=true->e.on≠i)->oi.apart ops ok=true:=λk ok hk sq nV ug=>by
    refine nj k ok hk sq ?_ ug;by_cases hjk:j=k
    ·subst hjk;exact oW
    ·rw[jt true hjk]at nV;exact nV
   refine Yg (λa' h3=>ih (lK.setIfInBounds j true) a' (inv.set hj qo) sn (jP hr (iT nR)) h3.1 ?_) h2;rw[jV _ _ nR];exact h3.2
def Dy (P:Program):List (Option Tmp)->List Oper->(St->Prop)->St->Prop
 | _,[],K,s=>K s
 | ds,o::r,K,s=>IT ds o s (KT P o s λv=>Dy P (ds++[o.dst]) r K (s.put o.dst v)) (Dy P (ds++[o.dst]) r K (s.put o.dst .un))
theorem Un {ds:List (Option Tmp)}{o:Oper}{A B:Prop}(ou :∀(j:Nat) d,ds[j]?=some d->(ops[j]?).map (·.dst)=some d)(h:IT ds o s A B):
  (FV ops o s=some true/\A)∨(FV ops o s=some false/\B):=by
 unfold IT at h;unfold FV;split at h
 ·rename_i hg;rw[hg];exact .inl ⟨rfl,h⟩
 ·rename_i j want hg;rw[hg];dsimp only;split at h
  ·rename_i t ht;unfold Xd at h;split at h
   ·rename_i b hb;have:=ou j _ ht;have hj:(ops[j]?).bind (·.dst)=some t:=by
     cases ho:ops[j]? with
     | none=>rw[ho]at this;cases this
     | some oj=>rw[ho]at this;simpa using this
    rw[hj];dsimp only;rw[hb];by_cases rE:b=want
    ·exact .inl ⟨by simp[rE],h.1 rE⟩
    ·exact .inr ⟨by simp[rE],h.2 rE⟩
   ·rename_i hb;have:=ou j _ ht;have hj:(ops[j]?).bind (·.dst)=some t:=by
     cases ho:ops[j]? with
     | none=>rw[ho]at this;cases this
     | some oj=>rw[ho]at this;simpa using this
    rw[hj];dsimp only;rw[hb];exact .inr ⟨rfl,h⟩
   ·exact h.elim
  ·exact h.elim
theorem Rj {n g:Nat}{K:St->Prop}(mu :∀lK,HeadInv md ops n lK->∀i,i<n->lK.getD i true=false->∀t,n<=t->t ∉ Region.ready md ops lK):
  ∀(l:List Oper) (ds:List (Option Tmp)) (lK:Array Bool) (s:St),(∀(j:Nat),j<l.length->l[j]?=ops[ds.length+j]?)->(∀(j:Nat) d,ds[j]?=some d->(ops[j]?).map (·.dst)=some d)->ds.length+l.length=n->HeadInv md ops n lK->
  Region.lexHead md ops g l.length ds.length lK=true->Dy P ds l K s->
  UO P md ops n (λlisted' s'=>Region.seqB md ops g n listed'=true/\K s') l.length lK s
 | [],ds,lK,s,_,_,hk,_,hB,h=>by
  have:ds.length=n:=by simpa using hk
  subst this;exact⟨by simpa [Region.lexHead] using hB,h⟩
 | o::l,ds,lK,s,hl,ou,hk,inv,hB,h=>by
  have h0:ops[ds.length]?=some o:=by simpa using (hl 0 (by simp)).symm
  simp only[gn,Region.lexHead,gN]at hB;obtain⟨⟨hr,hf⟩,hB'⟩:=hB;have su:ds.length<n:=by simp only[gn]at hk;omega
  have mc:ds.length∈Region.ready md ops lK:=by simpa using hr
  have pU :∀(j:Nat) d,(ds++[o.dst])[j]?=some d->(ops[j]?).map (·.dst)=some d:=λj d hj=>by
   rcases iH j ds.length with h1|h1|h1
   ·rw[ft h1]at hj;exact ou j d hj
   ·subst h1;rw[JR,ff]at hj;rw[h0];simp[hj]
   ·rw[hH (by simp;omega)]at hj;cases hj
  have oX:∀s',Dy P (ds++[o.dst]) l K s'->UO P md ops n (λlisted' s'=>Region.seqB md ops g n listed'=true/\K s') l.length (lK.setIfInBounds ds.length true) s':=λs' pj=>
   Rj mu l (ds++[o.dst]) _ s' (λj hj=>by
    have:=hl (j+1) (by simp;omega);simp only[gZ]at this;rw[this];congr 1;simp;omega) pU (by simp only[gn,gV,iM]at hk⊢;omega) (inv.set mc su) (by simpa using hB') pj
  have oE:∀v,YA P ops o v s->Dy P (ds++[o.dst]) l K (s.put o.dst v)->UO P md ops n (λlisted' s'=>Region.seqB md ops g n listed'=true/\K s') (l.length+1) lK s:=λv hy hK=>
   Xg h0 mu su (λlisted' s' hL=>seqB_ready hL.1) l.length lK s inv (kM h0 hf) mc hy (oX _ hK)
  simp only[Dy]at h;rcases Un ou h with ⟨hw,h1⟩|⟨hw,h1⟩
  ·obtain⟨v,hK,oD⟩:=T6 h1;exact oE v (.inl ⟨hw,oD⟩) hK
  ·exact oE .un (.inr ⟨hw,rfl⟩) h1
theorem Rel.drew (hr:Rel F os s a w):Rel F os s a w.drew/\Ext F os w F os w.drew k:=by
 have:=hr.Vd (k:=k) (w':=w.drew) (b:=none) ⟨rfl,rfl,rfl,gA _,λ_ _ _=>rfl⟩ (by simp) (FF.refl os) (λi o ho=>.inl ⟨ho,by simp⟩) hr.inj (λo ho g hg=>.inr ⟨o,ho,hg⟩) (by simp);refine⟨?_,this.2.1⟩;have h1:=this.1;rw[hr.st]at h1;exact h1
theorem SA (n:Nat):HeadInv .any ops n (Array.replicate ops.size false):=
 ⟨by simp,λj oj _ hl=>(by rw[getD_replicate_false]at hl;cases hl),λt _ ht=>getD_in (by simpa using ht) (getD_replicate_false _ _)⟩
theorem Ca {id:Nat}{Q:Exit->St->Prop}(hm:P.follows .mixedOrders=true)(hB:Region.lexHead .any ops 0 ops.size 0 (Array.replicate ops.size false)=true)(hd:(ops.toList.all λo=>DM s.n o.dst)=true)
  (h:Dy P [] ops.toList (λs'=>Q .normal s') s):AW P k (.region id ops true) Q s:=by
 intro F os a w hr;obtain⟨rq,he1⟩:=hr.drew (k:=k);refine kG hm ?_;have H:=Rj (md:=.any) (ops:=ops) (n:=ops.size) (g:=0) (K:=λs'=>Q .normal s') (P:=P) (λlK _ i _ _ t ht hr=>by
   obtain⟨_,o,ho,_⟩:=jS.1 hr;have:=(gk.1 ho).1;omega) ops.toList [] _ s (by simp) (by simp) (by simp) (SA _) (by simpa using hB) h
 have:=Lw (k:=k) (g:=0) (N:=s.n) (Q':=KF k Q F os w) (F0:=F) (os0:=os) (w0:=w) (λo ho=>fk.1 hd o ho) (λlK s' F' os' a' w' _ hL mc he=>by
  refine⟨by simpa [Region.seqB] using hL.1,?_⟩;exact⟨s',F',os',hL.2,mc,he⟩) _ _ s F os a w.drew rfl H rq he1
 simpa using this
end Go.Abs
