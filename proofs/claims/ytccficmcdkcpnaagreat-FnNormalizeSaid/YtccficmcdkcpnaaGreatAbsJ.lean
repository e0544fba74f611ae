import Derived.Test.YtccficmcdkcpnaaGreatAbsI
set_option linter.all false
namespace Go.Abs
open Go
variable {P : Program} {F : Nat -> Prop} {os : List Own} {s : St} {a : Act} {w : World} {k : Nat} {ops : Array Oper} {md : Region.Mode}
theorem Zp {o:Oper}{v:AV}(hr:Rel F os s a w)(hd:DG s.n o.dst=true)(h:My P o s (·=v)){next:Act->World->Prop}{Q:Exit->Act->World->Prop}
  (hn :∀a' w',Step k s.n F os w (·=s.put o.dst v) a' w'->next a' w'):o.wp P a w next Q:=by
 have hq:Kw P s o.op (·=v)->o.wp P a w next Q:=λh=>by
  obtain⟨x,u,rfl,h2,h3⟩:=Ti hr h;unfold Oper.wp;rw[h2];exact hn _ _ ⟨_,F,os,by cases o.dst<;>rfl,rfl,hr.put hd h3,Ext.refl _ _ _ _⟩
 unfold My at h;split at h
 ·obtain⟨v',h1,rfl⟩:=h;exact h1 s rfl (λ_ _=>rfl) hd k F os a w hr next Q hn
 ·exact hq h
def GS (ops:Array Oper)(o:Oper)(s:St):Option Bool:=
 match o.guard with
 | none=>some true
 | some (j,want)=>match (ops[j]?).bind (·.dst) with
  | some t=>match s.env t with
   | .bool b=>some (b==want)
   | .un=>some false
   | _=>none
  | none=>none
theorem PN (hr:Rel F os s a w)(vu :∀o∈ops.toList,DG s.n o.dst=true){o:Oper}{b:Bool}(h:GS ops o s=some b):Region.wanted o (yielded ops a.tmps)=b:=by
 unfold GS at h;unfold Region.wanted;split at h
 ·rename_i hg;rw[hg];simpa using h
 ·rename_i j want hg;rw[hg];dsimp only;split at h
  ·rename_i t ht;split at h
   ·rename_i b' hb;simp only[pz]at h;have hj:(ops[j]?).map (·.dst)=some (some t):=by
     cases ho:ops[j]? with
     | none=>rw[ho]at ht;cases ht
     | some oj=>rw[ho]at ht;simpa using ht
    have vS:t<s.n:=by
     cases ho:ops[j]? with
     | none=>rw[ho]at ht;cases ht
     | some oj=>
      rw[ho]at ht;simp only[po]at ht;have:=vu oj (by have:=pt (l:=ops.toList) (i:=j) (by simpa using ho);exact this);rw[ht]at this;simpa [DG] using this
    rw[WJ hr hj vS hb,<- h];cases b'<;>cases want<;>rfl
   ·rename_i hb;simp only[pz]at h;have hj:(ops[j]?).map (·.dst)=some (some t):=by
     cases ho:ops[j]? with
     | none=>rw[ho]at ht;cases ht
     | some oj=>rw[ho]at ht;simpa using ht
    have vS:t<s.n:=by
     cases ho:ops[j]? with
     | none=>rw[ho]at ht;cases ht
     | some oj=>
      rw[ho]at ht;simp only[po]at ht;have:=vu oj (by have:=pt (l:=ops.toList) (i:=j) (by simpa using ho);exact this);rw[ht]at this;simpa [DG] using this
    rw[V8 hr hj vS hb,<- h];rfl
   ·cases h
  ·cases h
def YA (P:Program)(ops:Array Oper)(o:Oper)(v:AV)(s:St):Prop:=
 (GS ops o s=some true/\My P o s (·=v))∨(GS ops o s=some false/\v=.un)
def Rp (P:Program)(ops:Array Oper)(i:Nat)(K:St->Prop)(s:St):Prop:=
 match ops[i]? with
 | none=>K s
 | some o=>∃v,YA P ops o v s/\K (s.put o.dst v)
theorem fY {i:Nat}{K K':St->Prop}(h :∀s,K s->K' s)(hh:Rp P ops i K s):Rp P ops i K' s:=by
 unfold Rp at *;split
 ·exact h _ (by simpa [*] using hh)
 ·rename_i o ho;simp only[ho]at hh;obtain⟨v,h1,h2⟩:=hh;exact⟨v,h1,h _ h2⟩
theorem YA.keep {oi:Oper}{v:AV}{d:Option Tmp}{u:AV}(hy:YA P ops oi v s)(hd :∀t,d=some t->t ∉ oi.looksAt ops):YA P ops oi v (s.put d u):=by
 have hev:∀x∈oi.op.operands,(s.put d u).ev x=s.ev x:=λx hx=>Wv λt ht hxt=>hd t ht (by
  subst hxt;exact rE _ (rQ.2 ⟨.tmp t,by simpa using hx,rfl⟩))
 have hw:GS ops oi (s.put d u)=GS ops oi s:=by
  unfold GS;cases hg:oi.guard with
  | none=>rfl
  | some p=>
   obtain⟨j,want⟩:=p;dsimp only;cases ht:(ops[j]?).bind (·.dst) with
   | none=>rfl
   | some t=>
    dsimp only;have:(s.put d u).env t=s.env t:=Wv (x:=.tmp t) λt' ht' e=>hd t' ht' (by
     cases e;exact sO _ (by simp[hg,ht]))
    rw[this]
 unfold YA at *;rw[hw];exact hy.imp (λh=>⟨h.1,Qu (gG _ _ _) hev h.2⟩) id
theorem jQ {j:Nat}{oi oj:Oper}{v:AV}(hj:ops[j]?=some oj)(hap:oi.apart ops oj=true){K:St->Prop}(hy:YA P ops oi v s)(h:Rp P ops j K (s.put oi.dst v)):
  Rp P ops j (λs'=>YA P ops oi v s'/\K (s'.put oi.dst v)) s:=by
 obtain⟨h1,h2,h3⟩:=Oper.apart_spec hap;unfold Rp at *;simp only[hj] at *;obtain⟨u,hu,hK⟩:=h;refine⟨u,?_,hy.keep h3,by rw[<- put_comm s v u h2];exact hK⟩;have hev:∀x∈oj.op.operands,s.ev x=(s.put oi.dst v).ev x:=λx hx=>(Wv λt ht hxt=>h1 t ht (by
  subst hxt;exact rE _ (rQ.2 ⟨.tmp t,by simpa using hx,rfl⟩))).symm
 have hw:GS ops oj s=GS ops oj (s.put oi.dst v):=by
  unfold GS;cases hg:oj.guard with
  | none=>rfl
  | some p=>
   obtain⟨j,want⟩:=p;dsimp only;cases ht:(ops[j]?).bind (·.dst) with
   | none=>rfl
   | some t=>
    dsimp only;have:(s.put oi.dst v).env t=s.env t:=Wv (x:=.tmp t) λt' ht' e=>h1 t' ht' (by
     cases e;exact sO _ (by simp[hg,ht]))
    rw[this]
 unfold YA at *;rw[hw];exact hu.imp (λh=>⟨h.1,Qu (gG _ _ _).symm hev h.2⟩) id
def X9 (P:Program)(md:Region.Mode)(ops:Array Oper)(n:Nat)(L:Array Bool->St->Prop):Nat->Array Bool->St->Prop
 | 0,uU,s=>L uU s
 | f+1,uU,s=>Region.ready md ops uU≠[]/\∀i∈Region.ready md ops uU,i<n/\Rp P ops i (X9 P md ops n L f (uU.setIfInBounds i true)) s
theorem Yj {i:Nat}{K:St->Prop}(vu :∀o∈ops.toList,DG s.n o.dst=true)(hr:Rel F os s a w)(h:Rp P ops i K s){next:Act->World->Prop}{Q:Exit->Act->World->Prop}
  (hn :∀a' w',Step k s.n F os w K a' w'->next a' w'):wpOp P ops Q i next a w:=by
 unfold Rp at h;unfold wpOp;split
 ·rename_i ho;simp only[ho]at h;exact hn a w ⟨s,F,os,rfl,h,hr,Ext.refl _ _ _ _⟩
 ·rename_i o ho;simp only[ho]at h;obtain⟨v,hy,hK⟩:=h;have hod:=vu o (by have:=pt (l:=ops.toList) (i:=i) (by simpa using ho);exact this);rcases hy with ⟨hw,hs⟩|⟨hw,rfl⟩
  ·rw[qF (PN hr vu hw)];refine .inl (Zp (k:=k) hr hod hs ?_);rintro a' w' ⟨s',F',os',h1,rfl,h3,h4⟩;exact hn a' w' ⟨_,F',os',h1,hK,h3,h4⟩
  ·rw[qG (by rw[PN hr vu hw];simp)];exact hn _ w ⟨_,F,os,by cases o.dst<;>rfl,hK,hr.un hod,Ext.refl _ _ _ _⟩
theorem Oq {n g N:Nat}{L:Array Bool->St->Prop}{Q':Exit->Act->World->Prop}{F0:Nat->Prop}{os0:List Own}{w0:World}(vu :∀o∈ops.toList,DG N o.dst=true)
  (hL :∀uU s F os a w,s.n=N->L uU s->Rel F os s a w->Ext F0 os0 w0 F os w k->wpAny P md ops Q' g uU a w) :
  ∀(f:Nat) (uU:Array Bool) (s:St) F os a w,s.n=N->X9 P md ops n L f uU s->Rel F os s a w->Ext F0 os0 w0 F os w k->wpAny P md ops Q' (f+g) uU a w
 | 0,uU,s,F,os,a,w,hn,h,hr,he=>by rw[rT];exact hL _ _ _ _ _ _ hn h hr he
 | f+1,uU,s,F,os,a,w,hn,h,hr,he=>by
  rw[show f+1+g=(f+g)+1 by omega];refine⟨λh0=>absurd h0 h.1,λi hi=>?_⟩;refine Yj (k:=k) (by rw[hn];exact vu) hr (h.2 i hi).2 ?_;rintro a' w' ⟨s',F',os',h1,h2,h3,h4⟩;exact Oq vu hL f _ s' F' os' a' w' (h1.trans hn) h2 h3 (he.trans h4)
theorem cr {n i:Nat}{oi:Oper}{v:AV}{L:Array Bool->St->Prop}(hi:ops[i]?=some oi)
  (wo :∀uU,HeadInv md ops n uU->∀i,i<n->uU.getD i true=false->∀t,n<=t->t ∉ Region.ready md ops uU) (wE:i<n)
  (hdone :∀uU s,L uU s->∀j∈Region.ready md ops uU,n<=j) :
  ∀(f:Nat) (uU:Array Bool) (s:St),HeadInv md ops n uU->
   (∀j oj,ops[j]?=some oj->j≠i->uU.getD j true=false->(∀e∈oj.after,Region.binds md e=true->e.on≠i)->oi.apart ops oj=true)->
   i∈Region.ready md ops uU->YA P ops oi v s->
   X9 P md ops n L f (uU.setIfInBounds i true) (s.put oi.dst v)->X9 P md ops n L (f+1) uU s:=by
 have yE:∀{K:St->Prop} {s:St},YA P ops oi v s->K (s.put oi.dst v)->Rp P ops i K s:=λ{K s} hy h=>by
  unfold Rp;simp only[hi];exact⟨v,hy,h⟩
 intro f
 induction f with
 | zero=>
  intro uU s inv _ hr hy H;have xR:=(si.1 hr).1;refine⟨λh=>(by rw[h]at hr;cases hr),λj hj=>?_⟩;have hjn:j<n:=by
   rcases rn j n with h|h
   ·exact h
   ·exact absurd hj (wo _ inv i wE xR j h)
  refine⟨hjn,?_⟩;by_cases xN:j=i
  ·subst xN;exact yE hy H
  ·have:=hdone _ _ H j (sc hj xN);omega
 | succ f ih=>
  intro uU s inv xk hr hy H;have xR:=(si.1 hr).1;refine⟨λh=>(by rw[h]at hr;cases hr),λj hj=>?_⟩;have hjn:j<n:=by
   rcases rn j n with h|h
   ·exact h
   ·exact absurd hj (wo _ inv i wE xR j h)
  refine⟨hjn,?_⟩;by_cases xN:j=i
  ·subst xN;exact yE hy H
  ·have h1:=(H.2 j (sc hj xN)).2;obtain⟨yZ,oj,xl,wY⟩:=si.1 hj;have hnot:∀e∈oj.after,Region.binds md e=true->e.on≠i:=λe he hb heq=>by
    have h1:=wY e he hb;rw[heq,getD_both xR]at h1;cases h1
   have h2:=jQ xl (xk j oj xl xN yZ hnot) hy h1;have hfree' :∀k ok,ops[k]?=some ok->k≠i->(uU.setIfInBounds j true).getD k true=false->
     (∀e∈ok.after,Region.binds md e=true->e.on≠i)->oi.apart ops ok=true:=λk ok hk xO xR hno=>by
    refine xk k ok hk xO ?_ hno;by_cases hjk:j=k
    ·subst hjk;exact yZ
    ·rw[tJ true hjk]at xR;exact xR
   refine fY (λa' h3=>ih (uU.setIfInBounds j true) a' (inv.set hj hjn) hfree' (sc hr (rX xN)) h3.1 ?_) h2;rw[sm _ _ xN];exact h3.2
def Dp (P:Program):List (Option Tmp)->List Oper->(St->Prop)->St->Prop
 | _,[],K,s=>K s
 | ds,o::r,K,s=>KL ds o s (My P o s λv=>Dp P (ds++[o.dst]) r K (s.put o.dst v)) (Dp P (ds++[o.dst]) r K (s.put o.dst .un))
theorem YW {ds:List (Option Tmp)}{o:Oper}{A B:Prop}(zE :∀(j:Nat) d,ds[j]?=some d->(ops[j]?).map (·.dst)=some d)(h:KL ds o s A B):
  (GS ops o s=some true/\A)∨(GS ops o s=some false/\B):=by
 unfold KL at h;unfold GS;split at h
 ·rename_i hg;rw[hg];exact .inl ⟨rfl,h⟩
 ·rename_i j want hg;rw[hg];dsimp only;split at h
  ·rename_i t ht;unfold dD at h;split at h
   ·rename_i b hb;have:=zE j _ ht;have hj:(ops[j]?).bind (·.dst)=some t:=by
     cases ho:ops[j]? with
     | none=>rw[ho]at this;cases this
     | some oj=>rw[ho]at this;simpa using this
    rw[hj];dsimp only;rw[hb];by_cases hbw:b=want
    ·exact .inl ⟨by simp[hbw],h.1 hbw⟩
    ·exact .inr ⟨by simp[hbw],h.2 hbw⟩
   ·rename_i hb;have:=zE j _ ht;have hj:(ops[j]?).bind (·.dst)=some t:=by
     cases ho:ops[j]? with
     | none=>rw[ho]at this;cases this
     | some oj=>rw[ho]at this;simpa using this
    rw[hj];dsimp only;rw[hb];exact .inr ⟨rfl,h⟩
   ·exact h.elim
  ·exact h.elim
theorem VU {n g:Nat}{K:St->Prop}(wo :∀uU,HeadInv md ops n uU->∀i,i<n->uU.getD i true=false->∀t,n<=t->t ∉ Region.ready md ops uU):
  ∀(l:List Oper) (ds:List (Option Tmp)) (uU:Array Bool) (s:St),(∀(j:Nat),j<l.length->l[j]?=ops[ds.length+j]?)->(∀(j:Nat) d,ds[j]?=some d->(ops[j]?).map (·.dst)=some d)->ds.length+l.length=n->HeadInv md ops n uU->
  Region.lexHead md ops g l.length ds.length uU=true->Dp P ds l K s->
  X9 P md ops n (λlisted' s'=>Region.seqB md ops g n listed'=true/\K s') l.length uU s
 | [],ds,uU,s,_,_,hk,_,hB,h=>by
  have:ds.length=n:=by simpa using hk
  subst this;exact⟨by simpa [Region.lexHead] using hB,h⟩
 | o::l,ds,uU,s,hl,zE,hk,inv,hB,h=>by
  have h0:ops[ds.length]?=some o:=by simpa using (hl 0 (by simp)).symm
  simp only[qa,Region.lexHead,qP]at hB;obtain⟨⟨hr,hf⟩,hB'⟩:=hB;have hkn:ds.length<n:=by simp only[qa]at hk;omega
  have wS:ds.length∈Region.ready md ops uU:=by simpa using hr
  have zV :∀(j:Nat) d,(ds++[o.dst])[j]?=some d->(ops[j]?).map (·.dst)=some d:=λj d hj=>by
   rcases rb j ds.length with h1|h1|h1
   ·rw[qK h1]at hj;exact zE j d hj
   ·subst h1;rw[KU,pz]at hj;rw[h0];simp[hj]
   ·rw[rR (by simp;omega)]at hj;cases hj
  have wF:∀s',Dp P (ds++[o.dst]) l K s'->X9 P md ops n (λlisted' s'=>Region.seqB md ops g n listed'=true/\K s') l.length (uU.setIfInBounds ds.length true) s':=λs' zw=>
   VU wo l (ds++[o.dst]) _ s' (λj hj=>by
    have:=hl (j+1) (by simp;omega);simp only[qq]at this;rw[this];congr 1;simp;omega) zV (by simp only[qa,qQ,qt]at hk⊢;omega) (inv.set wS hkn) (by simpa using hB') zw
  have yF:∀v,YA P ops o v s->Dp P (ds++[o.dst]) l K (s.put o.dst v)->X9 P md ops n (λlisted' s'=>Region.seqB md ops g n listed'=true/\K s') (l.length+1) uU s:=λv hy hK=>
   cr h0 wo hkn (λlisted' s' hL=>seqB_ready hL.1) l.length uU s inv (tj h0 hf) wS hy (wF _ hK)
  simp only[Dp]at h;rcases YW zE h with ⟨hw,h1⟩|⟨hw,h1⟩
  ·obtain⟨v,hK,yE⟩:=Xi h1;exact yF v (.inl ⟨hw,yE⟩) hK
  ·exact yF .un (.inr ⟨hw,rfl⟩) h1
theorem Rel.drew (hr:Rel F os s a w):Rel F os s a w.drew/\Ext F os w F os w.drew k:=by
 have:=hr.Z2 (k:=k) (w':=w.drew) (b:=none) ⟨rfl,rfl,rfl,qU _,λ_ _ _=>rfl⟩ (by simp) (F8.refl os) (λi o ho=>.inl ⟨ho,by simp⟩) hr.inj (λo ho g hg=>.inr ⟨o,ho,hg⟩) (by simp);refine⟨?_,this.2.1⟩;have h1:=this.1;rw[hr.st]at h1;exact h1
theorem VZ (n:Nat):HeadInv .any ops n (Array.replicate ops.size false):=
 ⟨by simp,λj oj _ hl=>(by rw[getD_replicate_false]at hl;cases hl),λt _ ht=>getD_in (by simpa using ht) (getD_replicate_false _ _)⟩
theorem CZ {id:Nat}{Q:Exit->St->Prop}(hm:P.follows .mixedOrders=true)(hB:Region.lexHead .any ops 0 ops.size 0 (Array.replicate ops.size false)=true)(hd:(ops.toList.all λo=>DG s.n o.dst)=true)
  (h:Dp P [] ops.toList (λs'=>Q .normal s') s):AW P k (.region id ops true) Q s:=by
 intro F os a w hr;obtain⟨hr1,he1⟩:=hr.drew (k:=k);refine td hm ?_;have H:=VU (md:=.any) (ops:=ops) (n:=ops.size) (g:=0) (K:=λs'=>Q .normal s') (P:=P) (λuU _ i _ _ t ht hr=>by
   obtain⟨_,o,ho,_⟩:=si.1 hr;have:=(qv.1 ho).1;omega) ops.toList [] _ s (by simp) (by simp) (by simp) (VZ _) (by simpa using hB) h
 have:=Oq (k:=k) (g:=0) (N:=s.n) (Q':=Mk k Q F os w) (F0:=F) (os0:=os) (w0:=w) (λo ho=>qC.1 hd o ho) (λuU s' F' os' a' w' _ hL wS he=>by
  refine⟨by simpa [Region.seqB] using hL.1,?_⟩;exact⟨s',F',os',hL.2,wS,he⟩) _ _ s F os a w.drew rfl H hr1 he1
 simpa using this
end Go.Abs
