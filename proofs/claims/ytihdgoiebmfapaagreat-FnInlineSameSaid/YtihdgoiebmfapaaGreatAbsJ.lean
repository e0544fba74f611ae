import Derived.Test.YtihdgoiebmfapaaGreatAbsI
set_option linter.all false
namespace Go.Abs
open Go
variable {P : Program} {F : Nat -> Prop} {os : List Own} {s : St} {a : Act} {w : World} {k : Nat} {ops : Array Oper} {md : Region.Mode}
theorem Zl {o:Oper}{v:AV}(hr:Rel F os s a w)(hd:Cy s.n o.dst=true)(h:Ly P o s (·=v)){next:Act->World->Prop}{Q:Exit->Act->World->Prop}
  (hn :∀a' w',Step k s.n F os w (·=s.put o.dst v) a' w'->next a' w'):o.wp P a w next Q:=by
 have hq:KE P s o.op (·=v)->o.wp P a w next Q:=λh=>by
  obtain⟨x,u,rfl,h2,h3⟩:=SN hr h;unfold Oper.wp;rw[h2];exact hn _ _ ⟨_,F,os,by cases o.dst<;>rfl,rfl,hr.put hd h3,Ext.refl _ _ _ _⟩
 unfold Ly at h;split at h
 .obtain⟨v',h1,rfl⟩:=h;exact h1 s rfl (λ_ _=>rfl) hd k F os a w hr next Q hn
 .exact hq h
def GG (ops:Array Oper)(o:Oper)(s:St):Option Bool:=
 match o.guard with
 |none=>some true
 |some (j,want)=>match (ops[j]?).bind (·.dst) with
  |some t=>match s.env t with
   |.bool b=>some (b==want)
   |.un=>some false
   |_=>none
  |none=>none
theorem N4 (hr:Rel F os s a w)(vL :∀o∈ops.toList,Cy s.n o.dst=true){o:Oper}{b:Bool}(h:GG ops o s=some b):Region.wanted o (yielded ops a.tmps)=b:=by
 unfold GG at h;unfold Region.wanted;split at h
 .rename_i hg;rw[hg];simpa using h
 .rename_i j want hg;rw[hg];dsimp only;split at h
  .rename_i t ht;split at h
   .rename_i b' hb;simp only[pC]at h;have hj:(ops[j]?).map (·.dst)=some (some t):=by
     cases ho:ops[j]? with
     |none=>rw[ho]at ht;cases ht
     |some oj=>rw[ho]at ht;simpa using ht
    have uU:t<s.n:=by
     cases ho:ops[j]? with
     |none=>rw[ho]at ht;cases ht
     |some oj=>
      rw[ho]at ht;simp only[ou]at ht;have:=vL oj (by have:=ov (l:=ops.toList) (i:=j) (by simpa using ho);exact this);rw[ht]at this;simpa [Cy] using this
    rw[V8 hr hj uU hb,<- h];cases b'<;>cases want<;>rfl
   .rename_i hb;simp only[pC]at h;have hj:(ops[j]?).map (·.dst)=some (some t):=by
     cases ho:ops[j]? with
     |none=>rw[ho]at ht;cases ht
     |some oj=>rw[ho]at ht;simpa using ht
    have uU:t<s.n:=by
     cases ho:ops[j]? with
     |none=>rw[ho]at ht;cases ht
     |some oj=>
      rw[ho]at ht;simp only[ou]at ht;have:=vL oj (by have:=ov (l:=ops.toList) (i:=j) (by simpa using ho);exact this);rw[ht]at this;simpa [Cy] using this
    rw[Vf hr hj uU hb,<- h];rfl
   .cases h
  .cases h
def YA (P:Program)(ops:Array Oper)(o:Oper)(v:AV)(s:St):Prop:=
 (GG ops o s=some true/\Ly P o s (·=v))∨(GG ops o s=some false/\v=.un)
def Qv (P:Program)(ops:Array Oper)(i:Nat)(K:St->Prop)(s:St):Prop:=
 match ops[i]? with
 |none=>K s
 |some o=>∃v,YA P ops o v s/\K (s.put o.dst v)
theorem eO {i:Nat}{K K':St->Prop}(h :∀s,K s->K' s)(hh:Qv P ops i K s):Qv P ops i K' s:=by
 unfold Qv at *;split
 .exact h _ (by simpa [*] using hh)
 .rename_i o ho;simp only[ho]at hh;obtain⟨v,h1,h2⟩:=hh;exact⟨v,h1,h _ h2⟩
theorem YA.keep {oi:Oper}{v:AV}{d:Option Tmp}{u:AV}(hy:YA P ops oi v s)(hd :∀t,d=some t->t ∉ oi.looksAt ops):YA P ops oi v (s.put d u):=by
 have hev:∀x∈oi.op.operands,(s.put d u).ev x=s.ev x:=λx hx=>Ww λt ht hxt=>hd t ht (by
  subst hxt;exact qN _ (qg.2 ⟨.tmp t,by simpa using hx,rfl⟩))
 have hw:GG ops oi (s.put d u)=GG ops oi s:=by
  unfold GG;cases hg:oi.guard with
  |none=>rfl
  |some p=>
   obtain⟨j,want⟩:=p;dsimp only;cases ht:(ops[j]?).bind (·.dst) with
   |none=>rfl
   |some t=>
    dsimp only;have:(s.put d u).env t=s.env t:=Ww (x:=.tmp t) λt' ht' e=>hd t' ht' (by
     cases e;exact qZ _ (by simp[hg,ht]))
    rw[this]
 unfold YA at *;rw[hw];exact hy.imp (λh=>⟨h.1,PL (fc _ _ _) hev h.2⟩) id
theorem iV {j:Nat}{oi oj:Oper}{v:AV}(hj:ops[j]?=some oj)(hap:oi.apart ops oj=true){K:St->Prop}(hy:YA P ops oi v s)(h:Qv P ops j K (s.put oi.dst v)):
  Qv P ops j (λs'=>YA P ops oi v s'/\K (s'.put oi.dst v)) s:=by
 obtain⟨h1,h2,h3⟩:=Oper.apart_spec hap;unfold Qv at *;simp only[hj] at *;obtain⟨u,hu,hK⟩:=h;refine⟨u,?_,hy.keep h3,by rw[<- put_comm s v u h2];exact hK⟩;have hev:∀x∈oj.op.operands,s.ev x=(s.put oi.dst v).ev x:=λx hx=>(Ww λt ht hxt=>h1 t ht (by
  subst hxt;exact qN _ (qg.2 ⟨.tmp t,by simpa using hx,rfl⟩))).symm
 have hw:GG ops oj s=GG ops oj (s.put oi.dst v):=by
  unfold GG;cases hg:oj.guard with
  |none=>rfl
  |some p=>
   obtain⟨j,want⟩:=p;dsimp only;cases ht:(ops[j]?).bind (·.dst) with
   |none=>rfl
   |some t=>
    dsimp only;have:(s.put oi.dst v).env t=s.env t:=Ww (x:=.tmp t) λt' ht' e=>h1 t' ht' (by
     cases e;exact qZ _ (by simp[hg,ht]))
    rw[this]
 unfold YA at *;rw[hw];exact hu.imp (λh=>⟨h.1,PL (fc _ _ _).symm hev h.2⟩) id
def XU (P:Program)(md:Region.Mode)(ops:Array Oper)(n:Nat)(L:Array Bool->St->Prop):Nat->Array Bool->St->Prop
 |0,tm,s=>L tm s
 |f+1,tm,s=>Region.ready md ops tm≠[]/\∀i∈Region.ready md ops tm,i<n/\Qv P ops i (XU P md ops n L f (tm.setIfInBounds i true)) s
theorem Yt {i:Nat}{K:St->Prop}(vL :∀o∈ops.toList,Cy s.n o.dst=true)(hr:Rel F os s a w)(h:Qv P ops i K s){next:Act->World->Prop}{Q:Exit->Act->World->Prop}
  (hn :∀a' w',Step k s.n F os w K a' w'->next a' w'):wpOp P ops Q i next a w:=by
 unfold Qv at h;unfold wpOp;split
 .rename_i ho;simp only[ho]at h;exact hn a w ⟨s,F,os,rfl,h,hr,Ext.refl _ _ _ _⟩
 .rename_i o ho;simp only[ho]at h;obtain⟨v,hy,hK⟩:=h;have zU:=vL o (by have:=ov (l:=ops.toList) (i:=i) (by simpa using ho);exact this);rcases hy with ⟨hw,hs⟩|⟨hw,rfl⟩
  .rw[pI (N4 hr vL hw)];refine .inl (Zl (k:=k) hr zU hs ?_);rintro a' w' ⟨s',F',os',h1,rfl,h3,h4⟩;exact hn a' w' ⟨_,F',os',h1,hK,h3,h4⟩
  .rw[pJ (by rw[N4 hr vL hw];simp)];exact hn _ w ⟨_,F,os,by cases o.dst<;>rfl,hK,hr.un zU,Ext.refl _ _ _ _⟩
theorem NJ {n g N:Nat}{L:Array Bool->St->Prop}{Q':Exit->Act->World->Prop}{F0:Nat->Prop}{os0:List Own}{w0:World}(vL :∀o∈ops.toList,Cy N o.dst=true)
  (hL :∀tm s F os a w,s.n=N->L tm s->Rel F os s a w->Ext F0 os0 w0 F os w k->wpAny P md ops Q' g tm a w) :
  ∀(f:Nat) (tm:Array Bool) (s:St) F os a w,s.n=N->XU P md ops n L f tm s->Rel F os s a w->Ext F0 os0 w0 F os w k->wpAny P md ops Q' (f+g) tm a w
 |0,tm,s,F,os,a,w,hn,h,hr,he=>by rw[qO];exact hL _ _ _ _ _ _ hn h hr he
 |f+1,tm,s,F,os,a,w,hn,h,hr,he=>by
  rw[show f+1+g=(f+g)+1 by omega];refine⟨λh0=>absurd h0 h.1,λi hi=>?_⟩;refine Yt (k:=k) (by rw[hn];exact vL) hr (h.2 i hi).2 ?_;rintro a' w' ⟨s',F',os',h1,h2,h3,h4⟩;exact NJ vL hL f _ s' F' os' a' w' (h1.trans hn) h2 h3 (he.trans h4)
theorem bf {n i:Nat}{oi:Oper}{v:AV}{L:Array Bool->St->Prop}(hi:ops[i]?=some oi)
  (vx :∀tm,HeadInv md ops n tm->∀i,i<n->tm.getD i true=false->∀t,n<=t->t ∉ Region.ready md ops tm) (vQ:i<n)
  (zC :∀tm s,L tm s->∀j∈Region.ready md ops tm,n<=j) :
  ∀(f:Nat) (tm:Array Bool) (s:St),HeadInv md ops n tm->
   (∀j oj,ops[j]?=some oj->j≠i->tm.getD j true=false->(∀e∈oj.after,Region.binds md e=true->e.on≠i)->oi.apart ops oj=true)->
   i∈Region.ready md ops tm->YA P ops oi v s->
   XU P md ops n L f (tm.setIfInBounds i true) (s.put oi.dst v)->XU P md ops n L (f+1) tm s:=by
 have xb:∀{K:St->Prop} {s:St},YA P ops oi v s->K (s.put oi.dst v)->Qv P ops i K s:=λ{K s} hy h=>by
  unfold Qv;simp only[hi];exact⟨v,hy,h⟩
 intro f
 induction f with
 |zero=>
  intro tm s inv _ hr hy H;have we:=(sD.1 hr).1;refine⟨λh=>(by rw[h]at hr;cases hr),λj hj=>?_⟩;have hjn:j<n:=by
   rcases rG j n with h|h
   .exact h
   .exact absurd hj (vx _ inv i vQ we j h)
  refine⟨hjn,?_⟩;by_cases wX:j=i
  .subst wX;exact xb hy H
  .have:=zC _ _ H j (sA hj wX);omega
 |succ f ih=>
  intro tm s inv xJ hr hy H;have we:=(sD.1 hr).1;refine⟨λh=>(by rw[h]at hr;cases hr),λj hj=>?_⟩;have hjn:j<n:=by
   rcases rG j n with h|h
   .exact h
   .exact absurd hj (vx _ inv i vQ we j h)
  refine⟨hjn,?_⟩;by_cases wX:j=i
  .subst wX;exact xb hy H
  .have h1:=(H.2 j (sA hj wX)).2;obtain⟨yC,oj,xK,vd⟩:=sD.1 hj;have hnot:∀e∈oj.after,Region.binds md e=true->e.on≠i:=λe he hb heq=>by
    have h1:=vd e he hb;rw[heq,getD_both we]at h1;cases h1
   have h2:=iV xK (xJ j oj xK wX yC hnot) hy h1;have hfree' :∀k ok,ops[k]?=some ok->k≠i->(tm.setIfInBounds j true).getD k true=false->
     (∀e∈ok.after,Region.binds md e=true->e.on≠i)->oi.apart ops ok=true:=λk ok hk hki we hno=>by
    refine xJ k ok hk hki ?_ hno;by_cases hjk:j=k
    .subst hjk;exact yC
    .rw[sZ true hjk]at we;exact we
   refine eO (λa' h3=>ih (tm.setIfInBounds j true) a' (inv.set hj hjn) hfree' (sA hr (qv wX)) h3.1 ?_) h2;rw[sG _ _ wX];exact h3.2
def EK (P:Program):List (Option Tmp)->List Oper->(St->Prop)->St->Prop
 |_,[],K,s=>K s
 |ds,o::r,K,s=>Jf ds o s (Ly P o s λv=>EK P (ds++[o.dst]) r K (s.put o.dst v)) (EK P (ds++[o.dst]) r K (s.put o.dst .un))
theorem Xb {ds:List (Option Tmp)}{o:Oper}{A B:Prop}(yB :∀(j:Nat) d,ds[j]?=some d->(ops[j]?).map (·.dst)=some d)(h:Jf ds o s A B):
  (GG ops o s=some true/\A)∨(GG ops o s=some false/\B):=by
 unfold Jf at h;unfold GG;split at h
 .rename_i hg;rw[hg];exact .inl ⟨rfl,h⟩
 .rename_i j want hg;rw[hg];dsimp only;split at h
  .rename_i t ht;unfold cC at h;split at h
   .rename_i b hb;have:=yB j _ ht;have hj:(ops[j]?).bind (·.dst)=some t:=by
     cases ho:ops[j]? with
     |none=>rw[ho]at this;cases this
     |some oj=>rw[ho]at this;simpa using this
    rw[hj];dsimp only;rw[hb];by_cases hbw:b=want
    .exact .inl ⟨by simp[hbw],h.1 hbw⟩
    .exact .inr ⟨by simp[hbw],h.2 hbw⟩
   .rename_i hb;have:=yB j _ ht;have hj:(ops[j]?).bind (·.dst)=some t:=by
     cases ho:ops[j]? with
     |none=>rw[ho]at this;cases this
     |some oj=>rw[ho]at this;simpa using this
    rw[hj];dsimp only;rw[hb];exact .inr ⟨rfl,h⟩
   .exact h.elim
  .exact h.elim
theorem VF {n g:Nat}{K:St->Prop}(vx :∀tm,HeadInv md ops n tm->∀i,i<n->tm.getD i true=false->∀t,n<=t->t ∉ Region.ready md ops tm):
  ∀(l:List Oper) (ds:List (Option Tmp)) (tm:Array Bool) (s:St),(∀(j:Nat),j<l.length->l[j]?=ops[ds.length+j]?)->(∀(j:Nat) d,ds[j]?=some d->(ops[j]?).map (·.dst)=some d)->ds.length+l.length=n->HeadInv md ops n tm->
  Region.lexHead md ops g l.length ds.length tm=true->EK P ds l K s->
  XU P md ops n (λlisted' s'=>Region.seqB md ops g n listed'=true/\K s') l.length tm s
 | [],ds,tm,s,_,_,hk,_,hB,h=>by
  have:ds.length=n:=by simpa using hk
  subst this;exact⟨by simpa [Region.lexHead] using hB,h⟩
 |o::l,ds,tm,s,hl,yB,hk,inv,hB,h=>by
  have h0:ops[ds.length]?=some o:=by simpa using (hl 0 (by simp)).symm
  simp only[po,Region.lexHead,pZ]at hB;obtain⟨⟨hr,hf⟩,hB'⟩:=hB;have hkn:ds.length<n:=by simp only[po]at hk;omega
  have vg:ds.length∈Region.ready md ops tm:=by simpa using hr
  have yD :∀(j:Nat) d,(ds++[o.dst])[j]?=some d->(ops[j]?).map (·.dst)=some d:=λj d hj=>by
   rcases qk j ds.length with h1|h1|h1
   .rw[pM h1]at hj;exact yB j d hj
   .subst h1;rw[J1,pC]at hj;rw[h0];simp[hj]
   .rw[qA (by simp;omega)]at hj;cases hj
  have vl:∀s',EK P (ds++[o.dst]) l K s'->XU P md ops n (λlisted' s'=>Region.seqB md ops g n listed'=true/\K s') l.length (tm.setIfInBounds ds.length true) s':=λs' hs'=>
   VF vx l (ds++[o.dst]) _ s' (λj hj=>by
    have:=hl (j+1) (by simp;omega);simp only[py]at this;rw[this];congr 1;simp;omega) yD (by simp only[po,pU,qi]at hk⊢;omega) (inv.set vg hkn) (by simpa using hB') hs'
  have xc:∀v,YA P ops o v s->EK P (ds++[o.dst]) l K (s.put o.dst v)->XU P md ops n (λlisted' s'=>Region.seqB md ops g n listed'=true/\K s') (l.length+1) tm s:=λv hy hK=>
   bf h0 vx hkn (λlisted' s' hL=>seqB_ready hL.1) l.length tm s inv (tF h0 hf) vg hy (vl _ hK)
  simp only[EK]at h;rcases Xb yB h with ⟨hw,h1⟩|⟨hw,h1⟩
  .obtain⟨v,hK,xb⟩:=YM h1;exact xc v (.inl ⟨hw,xb⟩) hK
  .exact xc .un (.inr ⟨hw,rfl⟩) h1
theorem Rel.drew (hr:Rel F os s a w):Rel F os s a w.drew/\Ext F os w F os w.drew k:=by
 have:=hr.Zt (k:=k) (w':=w.drew) (b:=none) ⟨rfl,rfl,rfl,pL _,λ_ _ _=>rfl⟩ (by simp) (Fp.refl os) (λi o ho=>.inl ⟨ho,by simp⟩) hr.inj (λo ho g hg=>.inr ⟨o,ho,hg⟩) (by simp);refine⟨?_,this.2.1⟩;have h1:=this.1;rw[hr.st]at h1;exact h1
theorem U6 (n:Nat):HeadInv .any ops n (Array.replicate ops.size false):=
 ⟨by simp,λj oj _ hl=>(by rw[getD_replicate_false]at hl;cases hl),λt _ ht=>getD_in (by simpa using ht) (getD_replicate_false _ _)⟩
theorem Cc {id:Nat}{Q:Exit->St->Prop}(hm:P.follows .mixedOrders=true)(hB:Region.lexHead .any ops 0 ops.size 0 (Array.replicate ops.size false)=true)(hd:(ops.toList.all λo=>Cy s.n o.dst)=true)
  (h:EK P [] ops.toList (λs'=>Q .normal s') s):AW P k (.region id ops true) Q s:=by
 intro F os a w hr;obtain⟨hr1,he1⟩:=hr.drew (k:=k);refine tA hm ?_;have H:=VF (md:=.any) (ops:=ops) (n:=ops.size) (g:=0) (K:=λs'=>Q .normal s') (P:=P) (λtm _ i _ _ t ht hr=>by
   obtain⟨_,o,ho,_⟩:=sD.1 hr;have:=(px.1 ho).1;omega) ops.toList [] _ s (by simp) (by simp) (by simp) (U6 _) (by simpa using hB) h
 have:=NJ (k:=k) (g:=0) (N:=s.n) (Q':=K0 k Q F os w) (F0:=F) (os0:=os) (w0:=w) (λo ho=>pG.1 hd o ho) (λtm s' F' os' a' w' _ hL vg he=>by
  refine⟨by simpa [Region.seqB] using hL.1,?_⟩;exact⟨s',F',os',hL.2,vg,he⟩) _ _ s F os a w.drew rfl H hr1 he1
 simpa using this
end Go.Abs
