import Derived.Test.YtihdgoiebmfapaaGreatAbsI
set_option linter.all false
namespace Go.Abs
open Go
variable {P : Program} {F : Nat -> Prop} {os : List Own} {s : St} {a : Act} {w : World} {k : Nat} {ops : Array Oper} {md : Region.Mode}
theorem XA {o:Oper}{v:AV}(hr:Rel F os s a w)(hd:DC s.n o.dst=true)(h:Kd P o s (·=v)){next:Act->World->Prop}{Q:Exit->Act->World->Prop}
  (hn :∀a' w',Step k s.n F os w (·=s.put o.dst v) a' w'->next a' w'):o.wp P a w next Q:=by
 have hq:JU P s o.op (·=v)->o.wp P a w next Q:=λh=>by
  obtain⟨x,u,rfl,h2,h3⟩:=Qt hr h;unfold Oper.wp;rw[h2];exact hn _ _ ⟨_,F,os,by cases o.dst<;>rfl,rfl,hr.put hd h3,Ext.refl _ _ _ _⟩
 unfold Kd at h;split at h
 ·obtain⟨v',h1,rfl⟩:=h;exact h1 s rfl (λ_ _=>rfl) hd k F os a w hr next Q hn
 ·exact hq h
def FY (ops:Array Oper)(o:Oper)(s:St):Option Bool:=
 match o.guard with
 | none=>some true
 | some (j,want)=>match (ops[j]?).bind (·.dst) with
  | some t=>match s.env t with
   | .bool b=>some (b==want)
   | .un=>some false
   | _=>none
  | none=>none
theorem My (hr:Rel F os s a w)(ph :∀o∈ops.toList,DC s.n o.dst=true){o:Oper}{b:Bool}(h:FY ops o s=some b):Region.wanted o (yielded ops a.tmps)=b:=by
 unfold FY at h;unfold Region.wanted;split at h
 ·rename_i hg;rw[hg];simpa using h
 ·rename_i j want hg;rw[hg];dsimp only;split at h
  ·rename_i t ht;split at h
   ·rename_i b' hb;simp only[jh]at h;have hj:(ops[j]?).map (·.dst)=some (some t):=by
     cases ho:ops[j]? with
     | none=>rw[ho]at ht;cases ht
     | some oj=>rw[ho]at ht;simpa using ht
    have pG:t<s.n:=by
     cases ho:ops[j]? with
     | none=>rw[ho]at ht;cases ht
     | some oj=>
      rw[ho]at ht;simp only[jd]at ht;have:=ph oj (by have:=je (l:=ops.toList) (i:=j) (by simpa using ho);exact this);rw[ht]at this;simpa [DC] using this
    rw[Tm hr hj pG hb,<- h];cases b'<;>cases want<;>rfl
   ·rename_i hb;simp only[jh]at h;have hj:(ops[j]?).map (·.dst)=some (some t):=by
     cases ho:ops[j]? with
     | none=>rw[ho]at ht;cases ht
     | some oj=>rw[ho]at ht;simpa using ht
    have pG:t<s.n:=by
     cases ho:ops[j]? with
     | none=>rw[ho]at ht;cases ht
     | some oj=>
      rw[ho]at ht;simp only[jd]at ht;have:=ph oj (by have:=je (l:=ops.toList) (i:=j) (by simpa using ho);exact this);rw[ht]at this;simpa [DC] using this
    rw[Tg hr hj pG hb,<- h];rfl
   ·cases h
  ·cases h
def YA (P:Program)(ops:Array Oper)(o:Oper)(v:AV)(s:St):Prop:=
 (FY ops o s=some true/\Kd P o s (·=v))∨(FY ops o s=some false/\v=.un)
def PY (P:Program)(ops:Array Oper)(i:Nat)(K:St->Prop)(s:St):Prop:=
 match ops[i]? with
 | none=>K s
 | some o=>∃v,YA P ops o v s/\K (s.put o.dst v)
theorem Ze {i:Nat}{K K':St->Prop}(h :∀s,K s->K' s)(hh:PY P ops i K s):PY P ops i K' s:=by
 unfold PY at *;split
 ·exact h _ (by simpa [*] using hh)
 ·rename_i o ho;simp only[ho]at hh;obtain⟨v,h1,h2⟩:=hh;exact⟨v,h1,h _ h2⟩
theorem YA.keep {oi:Oper}{v:AV}{d:Option Tmp}{u:AV}(hy:YA P ops oi v s)(hd :∀t,d=some t->t ∉ oi.looksAt ops):YA P ops oi v (s.put d u):=by
 have yr:∀x∈oi.op.operands,(s.put d u).ev x=s.ev x:=λx hx=>UY λt ht yu=>hd t ht (by
  subst yu;exact ko _ (kz.2 ⟨.tmp t,by simpa using hx,rfl⟩))
 have hw:FY ops oi (s.put d u)=FY ops oi s:=by
  unfold FY;cases hg:oi.guard with
  | none=>rfl
  | some p=>
   obtain⟨j,want⟩:=p;dsimp only;cases ht:(ops[j]?).bind (·.dst) with
   | none=>rfl
   | some t=>
    dsimp only;have:(s.put d u).env t=s.env t:=UY (x:=.tmp t) λt' uz e=>hd t' uz (by
     cases e;exact mD _ (by simp[hg,ht]))
    rw[this]
 unfold YA at *;rw[hw];exact hy.imp (λh=>⟨h.1,N8 (bT _ _ _) yr h.2⟩) id
theorem bd {j:Nat}{oi oj:Oper}{v:AV}(hj:ops[j]?=some oj)(yv:oi.apart ops oj=true){K:St->Prop}(hy:YA P ops oi v s)(h:PY P ops j K (s.put oi.dst v)):
  PY P ops j (λs'=>YA P ops oi v s'/\K (s'.put oi.dst v)) s:=by
 obtain⟨h1,h2,h3⟩:=Oper.apart_spec yv;unfold PY at *;simp only[hj] at *;obtain⟨u,hu,hK⟩:=h;refine⟨u,?_,hy.keep h3,by rw[<- put_comm s v u h2];exact hK⟩;have yr:∀x∈oj.op.operands,s.ev x=(s.put oi.dst v).ev x:=λx hx=>(UY λt ht yu=>h1 t ht (by
  subst yu;exact ko _ (kz.2 ⟨.tmp t,by simpa using hx,rfl⟩))).symm
 have hw:FY ops oj s=FY ops oj (s.put oi.dst v):=by
  unfold FY;cases hg:oj.guard with
  | none=>rfl
  | some p=>
   obtain⟨j,want⟩:=p;dsimp only;cases ht:(ops[j]?).bind (·.dst) with
   | none=>rfl
   | some t=>
    dsimp only;have:(s.put oi.dst v).env t=s.env t:=UY (x:=.tmp t) λt' uz e=>h1 t' uz (by
     cases e;exact mD _ (by simp[hg,ht]))
    rw[this]
 unfold YA at *;rw[hw];exact hu.imp (λh=>⟨h.1,N8 (bT _ _ _).symm yr h.2⟩) id
def VN (P:Program)(md:Region.Mode)(ops:Array Oper)(n:Nat)(L:Array Bool->St->Prop):Nat->Array Bool->St->Prop
 | 0,oS,s=>L oS s
 | f+1,oS,s=>Region.ready md ops oS≠[]/\∀i∈Region.ready md ops oS,i<n/\PY P ops i (VN P md ops n L f (oS.setIfInBounds i true)) s
theorem Wo {i:Nat}{K:St->Prop}(ph :∀o∈ops.toList,DC s.n o.dst=true)(hr:Rel F os s a w)(h:PY P ops i K s){next:Act->World->Prop}{Q:Exit->Act->World->Prop}
  (hn :∀a' w',Step k s.n F os w K a' w'->next a' w'):wpOp P ops Q i next a w:=by
 unfold PY at h;unfold wpOp;split
 ·rename_i ho;simp only[ho]at h;exact hn a w ⟨s,F,os,rfl,h,hr,Ext.refl _ _ _ _⟩
 ·rename_i o ho;simp only[ho]at h;obtain⟨v,hy,hK⟩:=h;have tq:=ph o (by have:=je (l:=ops.toList) (i:=i) (by simpa using ho);exact this);rcases hy with ⟨hw,hs⟩|⟨hw,rfl⟩
  ·rw[jm (My hr ph hw)];refine .inl (XA (k:=k) hr tq hs ?_);rintro a' w' ⟨s',F',os',h1,rfl,h3,h4⟩;exact hn a' w' ⟨_,F',os',h1,hK,h3,h4⟩
  ·rw[jn (by rw[My hr ph hw];simp)];exact hn _ w ⟨_,F,os,by cases o.dst<;>rfl,hK,hr.un tq,Ext.refl _ _ _ _⟩
theorem MD {n g N:Nat}{L:Array Bool->St->Prop}{Q':Exit->Act->World->Prop}{F0:Nat->Prop}{os0:List Own}{w0:World}(ph :∀o∈ops.toList,DC N o.dst=true)
  (hL :∀oS s F os a w,s.n=N->L oS s->Rel F os s a w->Ext F0 os0 w0 F os w k->wpAny P md ops Q' g oS a w) :
  ∀(f:Nat) (oS:Array Bool) (s:St) F os a w,s.n=N->VN P md ops n L f oS s->Rel F os s a w->Ext F0 os0 w0 F os w k->wpAny P md ops Q' (f+g) oS a w
 | 0,oS,s,F,os,a,w,hn,h,hr,he=>by rw[kt];exact hL _ _ _ _ _ _ hn h hr he
 | f+1,oS,s,F,os,a,w,hn,h,hr,he=>by
  rw[show f+1+g=(f+g)+1 by omega];refine⟨λh0=>absurd h0 h.1,λi hi=>?_⟩;refine Wo (k:=k) (by rw[hn];exact ph) hr (h.2 i hi).2 ?_;rintro a' w' ⟨s',F',os',h1,h2,h3,h4⟩;exact MD ph hL f _ s' F' os' a' w' (h1.trans hn) h2 h3 (he.trans h4)
theorem YU {n i:Nat}{oi:Oper}{v:AV}{L:Array Bool->St->Prop}(hi:ops[i]?=some oi)
  (qO :∀oS,HeadInv md ops n oS->∀i,i<n->oS.getD i true=false->∀t,n<=t->t ∉ Region.ready md ops oS) (pt:i<n)
  (sj :∀oS s,L oS s->∀j∈Region.ready md ops oS,n<=j) :
  ∀(f:Nat) (oS:Array Bool) (s:St),HeadInv md ops n oS->
   (∀j oj,ops[j]?=some oj->j≠i->oS.getD j true=false->(∀e∈oj.after,Region.binds md e=true->e.on≠i)->oi.apart ops oj=true)->
   i∈Region.ready md ops oS->YA P ops oi v s->
   VN P md ops n L f (oS.setIfInBounds i true) (s.put oi.dst v)->VN P md ops n L (f+1) oS s:=by
 have rT:∀{K:St->Prop} {s:St},YA P ops oi v s->K (s.put oi.dst v)->PY P ops i K s:=λ{K s} hy h=>by
  unfold PY;simp only[hi];exact⟨v,hy,h⟩
 intro f
 induction f with
 | zero=>
  intro oS s inv _ hr hy H;have qo:=(mV.1 hr).1;refine⟨λh=>(by rw[h]at hr;cases hr),λj hj=>?_⟩;have uN:j<n:=by
   rcases la j n with h|h
   ·exact h
   ·exact absurd hj (qO _ inv i pt qo j h)
  refine⟨uN,?_⟩;by_cases ql:j=i
  ·subst ql;exact rT hy H
  ·have:=sj _ _ H j (mS hj ql);omega
 | succ f ih=>
  intro oS s inv rE hr hy H;have qo:=(mV.1 hr).1;refine⟨λh=>(by rw[h]at hr;cases hr),λj hj=>?_⟩;have uN:j<n:=by
   rcases la j n with h|h
   ·exact h
   ·exact absurd hj (qO _ inv i pt qo j h)
  refine⟨uN,?_⟩;by_cases ql:j=i
  ·subst ql;exact rT hy H
  ·have h1:=(H.2 j (mS hj ql)).2;obtain⟨rq,oj,rF,qB⟩:=mV.1 hj;have tr:∀e∈oj.after,Region.binds md e=true->e.on≠i:=λe he hb heq=>by
    have h1:=qB e he hb;rw[heq,getD_both qo]at h1;cases h1
   have h2:=bd rF (rE j oj rF ql rq tr) hy h1;have xD :∀k ok,ops[k]?=some ok->k≠i->(oS.setIfInBounds j true).getD k true=false->
     (∀e∈ok.after,Region.binds md e=true->e.on≠i)->oi.apart ops ok=true:=λk ok hk xE qo yy=>by
    refine rE k ok hk xE ?_ yy;by_cases hjk:j=k
    ·subst hjk;exact rq
    ·rw[nD true hjk]at qo;exact qo
   refine Ze (λa' h3=>ih (oS.setIfInBounds j true) a' (inv.set hj uN) xD (mS hr (lK ql)) h3.1 ?_) h2;rw[mY _ _ ql];exact h3.2
def D6 (P:Program):List (Option Tmp)->List Oper->(St->Prop)->St->Prop
 | _,[],K,s=>K s
 | ds,o::r,K,s=>Iu ds o s (Kd P o s λv=>D6 P (ds++[o.dst]) r K (s.put o.dst v)) (D6 P (ds++[o.dst]) r K (s.put o.dst .un))
theorem VS {ds:List (Option Tmp)}{o:Oper}{A B:Prop}(sJ :∀(j:Nat) d,ds[j]?=some d->(ops[j]?).map (·.dst)=some d)(h:Iu ds o s A B):
  (FY ops o s=some true/\A)∨(FY ops o s=some false/\B):=by
 unfold Iu at h;unfold FY;split at h
 ·rename_i hg;rw[hg];exact .inl ⟨rfl,h⟩
 ·rename_i j want hg;rw[hg];dsimp only;split at h
  ·rename_i t ht;unfold ZI at h;split at h
   ·rename_i b hb;have:=sJ j _ ht;have hj:(ops[j]?).bind (·.dst)=some t:=by
     cases ho:ops[j]? with
     | none=>rw[ho]at this;cases this
     | some oj=>rw[ho]at this;simpa using this
    rw[hj];dsimp only;rw[hb];by_cases uw:b=want
    ·exact .inl ⟨by simp[uw],h.1 uw⟩
    ·exact .inr ⟨by simp[uw],h.2 uw⟩
   ·rename_i hb;have:=sJ j _ ht;have hj:(ops[j]?).bind (·.dst)=some t:=by
     cases ho:ops[j]? with
     | none=>rw[ho]at this;cases this
     | some oj=>rw[ho]at this;simpa using this
    rw[hj];dsimp only;rw[hb];exact .inr ⟨rfl,h⟩
   ·exact h.elim
  ·exact h.elim
theorem Sj {n g:Nat}{K:St->Prop}(qO :∀oS,HeadInv md ops n oS->∀i,i<n->oS.getD i true=false->∀t,n<=t->t ∉ Region.ready md ops oS):
  ∀(l:List Oper) (ds:List (Option Tmp)) (oS:Array Bool) (s:St),(∀(j:Nat),j<l.length->l[j]?=ops[ds.length+j]?)->(∀(j:Nat) d,ds[j]?=some d->(ops[j]?).map (·.dst)=some d)->ds.length+l.length=n->HeadInv md ops n oS->
  Region.lexHead md ops g l.length ds.length oS=true->D6 P ds l K s->
  VN P md ops n (λlisted' s'=>Region.seqB md ops g n listed'=true/\K s') l.length oS s
 | [],ds,oS,s,_,_,hk,_,hB,h=>by
  have:ds.length=n:=by simpa using hk
  subst this;exact⟨by simpa [Region.lexHead] using hB,h⟩
 | o::l,ds,oS,s,hl,sJ,hk,inv,hB,h=>by
  have h0:ops[ds.length]?=some o:=by simpa using (hl 0 (by simp)).symm
  simp only[kQ,Region.lexHead,kF]at hB;obtain⟨⟨hr,hf⟩,hB'⟩:=hB;have zA:ds.length<n:=by simp only[kQ]at hk;omega
  have qF:ds.length∈Region.ready md ops oS:=by simpa using hr
  have sk :∀(j:Nat) d,(ds++[o.dst])[j]?=some d->(ops[j]?).map (·.dst)=some d:=λj d hj=>by
   rcases lH j ds.length with h1|h1|h1
   ·rw[jr h1]at hj;exact sJ j d hj
   ·subst h1;rw[Jg,jh]at hj;rw[h0];simp[hj]
   ·rw[kq (by simp;omega)]at hj;cases hj
  have qH:∀s',D6 P (ds++[o.dst]) l K s'->VN P md ops n (λlisted' s'=>Region.seqB md ops g n listed'=true/\K s') l.length (oS.setIfInBounds ds.length true) s':=λs' hs'=>
   Sj qO l (ds++[o.dst]) _ s' (λj hj=>by
    have:=hl (j+1) (by simp;omega);simp only[kT]at this;rw[this];congr 1;simp;omega) sk (by simp only[kQ,kD,lE]at hk⊢;omega) (inv.set qF zA) (by simpa using hB') hs'
  have rU:∀v,YA P ops o v s->D6 P (ds++[o.dst]) l K (s.put o.dst v)->VN P md ops n (λlisted' s'=>Region.seqB md ops g n listed'=true/\K s') (l.length+1) oS s:=λv hy hK=>
   YU h0 qO zA (λlisted' s' hL=>seqB_ready hL.1) l.length oS s inv (nb h0 hf) qF hy (qH _ hK)
  simp only[D6]at h;rcases VS sJ h with ⟨hw,h1⟩|⟨hw,h1⟩
  ·obtain⟨v,hK,rT⟩:=U9 h1;exact rU v (.inl ⟨hw,rT⟩) hK
  ·exact rU .un (.inr ⟨hw,rfl⟩) h1
theorem Rel.drew (hr:Rel F os s a w):Rel F os s a w.drew/\Ext F os w F os w.drew k:=by
 have:=hr.Wq (k:=k) (w':=w.drew) (b:=none) ⟨rfl,rfl,rfl,jv _,λ_ _ _=>rfl⟩ (by simp) (FH.refl os) (λi o ho=>.inl ⟨ho,by simp⟩) hr.inj (λo ho g hg=>.inr ⟨o,ho,hg⟩) (by simp);refine⟨?_,this.2.1⟩;have h1:=this.1;rw[hr.st]at h1;exact h1
theorem So (n:Nat):HeadInv .any ops n (Array.replicate ops.size false):=
 ⟨by simp,λj oj _ hl=>(by rw[getD_replicate_false]at hl;cases hl),λt _ ht=>getD_in (by simpa using ht) (getD_replicate_false _ _)⟩
theorem Cd {id:Nat}{Q:Exit->St->Prop}(hm:P.follows .mixedOrders=true)(hB:Region.lexHead .any ops 0 ops.size 0 (Array.replicate ops.size false)=true)(hd:(ops.toList.all λo=>DC s.n o.dst)=true)
  (h:D6 P [] ops.toList (λs'=>Q .normal s') s):AW P k (.region id ops true) Q s:=by
 intro F os a w hr;obtain⟨vA,he1⟩:=hr.drew (k:=k);refine nU hm ?_;have H:=Sj (md:=.any) (ops:=ops) (n:=ops.size) (g:=0) (K:=λs'=>Q .normal s') (P:=P) (λoS _ i _ _ t ht hr=>by
   obtain⟨_,o,ho,_⟩:=mV.1 hr;have:=(kR.1 ho).1;omega) ops.toList [] _ s (by simp) (by simp) (by simp) (So _) (by simpa using hB) h
 have:=MD (k:=k) (g:=0) (N:=s.n) (Q':=J4 k Q F os w) (F0:=F) (os0:=os) (w0:=w) (λo ho=>jq.1 hd o ho) (λoS s' F' os' a' w' _ hL qF he=>by
  refine⟨by simpa [Region.seqB] using hL.1,?_⟩;exact⟨s',F',os',hL.2,qF,he⟩) _ _ s F os a w.drew rfl H vA he1
 simpa using this
end Go.Abs
