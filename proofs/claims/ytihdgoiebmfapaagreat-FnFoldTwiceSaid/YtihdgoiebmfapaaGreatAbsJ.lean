import Derived.Test.YtihdgoiebmfapaaGreatAbsI
namespace Go.Abs
open Go
variable {P : Program} {F : Nat -> Prop} {os : List Own} {s : St} {a : Act} {w : World} {k : Nat} {ops : Array Oper} {md : Region.Mode}
theorem Wq {o:Oper}{v:AV}(hr:Rel F os s a w)(hd:DC s.n o.dst=true)(h:Kj P o s (·=v)){next:Act->World->Prop}{Q:Exit->Act->World->Prop}
  (hn :∀a' w',Step k s.n F os w (·=s.put o.dst v) a' w'->next a' w'):o.wp P a w next Q:=by
 have hq:JV P s o.op (·=v)->o.wp P a w next Q:=λh=>by
  obtain⟨x,u,rfl,h2,h3⟩:=Qu hr h;unfold Oper.wp;rw[h2];exact hn _ _ ⟨_,F,os,by cases o.dst<;>rfl,rfl,hr.put hd h3,Ext.refl _ _ _ _⟩
 unfold Kj at h;split at h
 ·obtain⟨v',h1,rfl⟩:=h;exact h1 s rfl (λ_ _=>rfl) hd k F os a w hr next Q hn
 ·exact hq h
def Fa (ops:Array Oper)(o:Oper)(s:St):Option Bool:=
 match o.guard with
 | none=>some true
 | some (j,want)=>match (ops[j]?).bind (·.dst) with
  | some t=>match s.env t with
   | .bool b=>some (b==want)
   | .un=>some false
   | _=>none
  | none=>none
theorem NB (hr:Rel F os s a w)(hdst :∀o∈ops.toList,DC s.n o.dst=true){o:Oper}{b:Bool}(h:Fa ops o s=some b):Region.wanted o (yielded ops a.tmps)=b:=by
 unfold Fa at h;unfold Region.wanted;split at h
 ·rename_i hg;rw[hg];simpa using h
 ·rename_i j want hg;rw[hg];dsimp only;split at h
  ·rename_i t ht;split at h
   ·rename_i b' hb;simp only[jh]at h;have hj:(ops[j]?).map (·.dst)=some (some t):=by
     cases ho:ops[j]? with
     | none=>rw[ho]at ht;cases ht
     | some oj=>rw[ho]at ht;simpa using ht
    have hlt:t<s.n:=by
     cases ho:ops[j]? with
     | none=>rw[ho]at ht;cases ht
     | some oj=>
      rw[ho]at ht;simp only[jd]at ht;have:=hdst oj (by have:=je (l:=ops.toList) (i:=j) (by simpa using ho);exact this);rw[ht]at this;simpa [DC] using this
    rw[Tl hr hj hlt hb,<- h];cases b'<;>cases want<;>rfl
   ·rename_i hb;simp only[jh]at h;have hj:(ops[j]?).map (·.dst)=some (some t):=by
     cases ho:ops[j]? with
     | none=>rw[ho]at ht;cases ht
     | some oj=>rw[ho]at ht;simpa using ht
    have hlt:t<s.n:=by
     cases ho:ops[j]? with
     | none=>rw[ho]at ht;cases ht
     | some oj=>
      rw[ho]at ht;simp only[jd]at ht;have:=hdst oj (by have:=je (l:=ops.toList) (i:=j) (by simpa using ho);exact this);rw[ht]at this;simpa [DC] using this
    rw[Tf hr hj hlt hb,<- h];rfl
   ·cases h
  ·cases h
def YA (P:Program)(ops:Array Oper)(o:Oper)(v:AV)(s:St):Prop:=
 (Fa ops o s=some true/\Kj P o s (·=v))∨(Fa ops o s=some false/\v=.un)
def Oz (P:Program)(ops:Array Oper)(i:Nat)(K:St->Prop)(s:St):Prop:=
 match ops[i]? with
 | none=>K s
 | some o=>∃v,YA P ops o v s/\K (s.put o.dst v)
theorem ah {i:Nat}{K K':St->Prop}(h :∀s,K s->K' s)(hh:Oz P ops i K s):Oz P ops i K' s:=by
 unfold Oz at *;split
 ·exact h _ (by simpa [*] using hh)
 ·rename_i o ho;simp only[ho]at hh;obtain⟨v,h1,h2⟩:=hh;exact⟨v,h1,h _ h2⟩
theorem YA.keep {oi:Oper}{v:AV}{d:Option Tmp}{u:AV}(hy:YA P ops oi v s)(hd :∀t,d=some t->t ∉ oi.looksAt ops):YA P ops oi v (s.put d u):=by
 have hev:∀x∈oi.op.operands,(s.put d u).ev x=s.ev x:=λx hx=>Ub λt ht hxt=>hd t ht (by
  subst hxt;exact ko _ (kz.2 ⟨.tmp t,by simpa using hx,rfl⟩))
 have hw:Fa ops oi (s.put d u)=Fa ops oi s:=by
  unfold Fa;cases hg:oi.guard with
  | none=>rfl
  | some p=>
   obtain⟨j,want⟩:=p;dsimp only;cases ht:(ops[j]?).bind (·.dst) with
   | none=>rfl
   | some t=>
    dsimp only;have:(s.put d u).env t=s.env t:=Ub (x:=.tmp t) λt' ht' e=>hd t' ht' (by
     cases e;exact mD _ (by simp[hg,ht]))
    rw[this]
 unfold YA at *;rw[hw];exact hy.imp (λh=>⟨h.1,OC (bI _ _ _) hev h.2⟩) id
theorem bw {j:Nat}{oi oj:Oper}{v:AV}(hj:ops[j]?=some oj)(hap:oi.apart ops oj=true){K:St->Prop}(hy:YA P ops oi v s)(h:Oz P ops j K (s.put oi.dst v)):
  Oz P ops j (λs'=>YA P ops oi v s'/\K (s'.put oi.dst v)) s:=by
 obtain⟨h1,h2,h3⟩:=Oper.apart_spec hap;unfold Oz at *;simp only[hj] at *;obtain⟨u,hu,hK⟩:=h;refine⟨u,?_,hy.keep h3,by rw[<- put_comm s v u h2];exact hK⟩;have hev:∀x∈oj.op.operands,s.ev x=(s.put oi.dst v).ev x:=λx hx=>(Ub λt ht hxt=>h1 t ht (by
  subst hxt;exact ko _ (kz.2 ⟨.tmp t,by simpa using hx,rfl⟩))).symm
 have hw:Fa ops oj s=Fa ops oj (s.put oi.dst v):=by
  unfold Fa;cases hg:oj.guard with
  | none=>rfl
  | some p=>
   obtain⟨j,want⟩:=p;dsimp only;cases ht:(ops[j]?).bind (·.dst) with
   | none=>rfl
   | some t=>
    dsimp only;have:(s.put oi.dst v).env t=s.env t:=Ub (x:=.tmp t) λt' ht' e=>h1 t' ht' (by
     cases e;exact mD _ (by simp[hg,ht]))
    rw[this]
 unfold YA at *;rw[hw];exact hu.imp (λh=>⟨h.1,OC (bI _ _ _).symm hev h.2⟩) id
def Vw (P:Program)(md:Region.Mode)(ops:Array Oper)(n:Nat)(L:Array Bool->St->Prop):Nat->Array Bool->St->Prop
 | 0,listed,s=>L listed s
 | f+1,listed,s=>Region.ready md ops listed≠[]/\∀i∈Region.ready md ops listed,i<n/\Oz P ops i (Vw P md ops n L f (listed.setIfInBounds i true)) s
theorem WG {i:Nat}{K:St->Prop}(hdst :∀o∈ops.toList,DC s.n o.dst=true)(hr:Rel F os s a w)(h:Oz P ops i K s){next:Act->World->Prop}{Q:Exit->Act->World->Prop}
  (hn :∀a' w',Step k s.n F os w K a' w'->next a' w'):wpOp P ops Q i next a w:=by
 unfold Oz at h;unfold wpOp;split
 ·rename_i ho;simp only[ho]at h;exact hn a w ⟨s,F,os,rfl,h,hr,Ext.refl _ _ _ _⟩
 ·rename_i o ho;simp only[ho]at h;obtain⟨v,hy,hK⟩:=h;have hod:=hdst o (by have:=je (l:=ops.toList) (i:=i) (by simpa using ho);exact this);rcases hy with ⟨hw,hs⟩|⟨hw,rfl⟩
  ·rw[jm (NB hr hdst hw)];refine .inl (Wq (k:=k) hr hod hs ?_);rintro a' w' ⟨s',F',os',h1,rfl,h3,h4⟩;exact hn a' w' ⟨_,F',os',h1,hK,h3,h4⟩
  ·rw[jn (by rw[NB hr hdst hw];simp)];exact hn _ w ⟨_,F,os,by cases o.dst<;>rfl,hK,hr.un hod,Ext.refl _ _ _ _⟩
theorem ML {n g N:Nat}{L:Array Bool->St->Prop}{Q':Exit->Act->World->Prop}{F0:Nat->Prop}{os0:List Own}{w0:World}(hdst :∀o∈ops.toList,DC N o.dst=true)
  (hL :∀listed s F os a w,s.n=N->L listed s->Rel F os s a w->Ext F0 os0 w0 F os w k->wpAny P md ops Q' g listed a w) :
  ∀(f:Nat) (listed:Array Bool) (s:St) F os a w,s.n=N->Vw P md ops n L f listed s->Rel F os s a w->Ext F0 os0 w0 F os w k->wpAny P md ops Q' (f+g) listed a w
 | 0,listed,s,F,os,a,w,hn,h,hr,he=>by rw[kt];exact hL _ _ _ _ _ _ hn h hr he
 | f+1,listed,s,F,os,a,w,hn,h,hr,he=>by
  rw[show f+1+g=(f+g)+1 by omega];refine⟨λh0=>absurd h0 h.1,λi hi=>?_⟩;refine WG (k:=k) (by rw[hn];exact hdst) hr (h.2 i hi).2 ?_;rintro a' w' ⟨s',F',os',h1,h2,h3,h4⟩;exact ML hdst hL f _ s' F' os' a' w' (h1.trans hn) h2 h3 (he.trans h4)
theorem YY {n i:Nat}{oi:Oper}{v:AV}{L:Array Bool->St->Prop}(hi:ops[i]?=some oi)
  (htail :∀listed,HeadInv md ops n listed->∀i,i<n->listed.getD i true=false->∀t,n<=t->t ∉ Region.ready md ops listed) (hin:i<n)
  (hdone :∀listed s,L listed s->∀j∈Region.ready md ops listed,n<=j) :
  ∀(f:Nat) (listed:Array Bool) (s:St),HeadInv md ops n listed->
   (∀j oj,ops[j]?=some oj->j≠i->listed.getD j true=false->(∀e∈oj.after,Region.binds md e=true->e.on≠i)->oi.apart ops oj=true)->
   i∈Region.ready md ops listed->YA P ops oi v s->
   Vw P md ops n L f (listed.setIfInBounds i true) (s.put oi.dst v)->Vw P md ops n L (f+1) listed s:=by
 have hstep:∀{K:St->Prop} {s:St},YA P ops oi v s->K (s.put oi.dst v)->Oz P ops i K s:=λ{K s} hy h=>by
  unfold Oz;simp only[hi];exact⟨v,hy,h⟩
 intro f
 induction f with
 | zero=>
  intro listed s inv _ hr hy H;have hun:=(mV.1 hr).1;refine⟨λh=>(by rw[h]at hr;cases hr),λj hj=>?_⟩;have hjn:j<n:=by
   rcases la j n with h|h
   ·exact h
   ·exact absurd hj (htail _ inv i hin hun j h)
  refine⟨hjn,?_⟩;by_cases hji:j=i
  ·subst hji;exact hstep hy H
  ·have:=hdone _ _ H j (mS hj hji);omega
 | succ f ih=>
  intro listed s inv hfree hr hy H;have hun:=(mV.1 hr).1;refine⟨λh=>(by rw[h]at hr;cases hr),λj hj=>?_⟩;have hjn:j<n:=by
   rcases la j n with h|h
   ·exact h
   ·exact absurd hj (htail _ inv i hin hun j h)
  refine⟨hjn,?_⟩;by_cases hji:j=i
  ·subst hji;exact hstep hy H
  ·have h1:=(H.2 j (mS hj hji)).2;obtain⟨hjun,oj,hoj,hall⟩:=mV.1 hj;have hnot:∀e∈oj.after,Region.binds md e=true->e.on≠i:=λe he hb heq=>by
    have h1:=hall e he hb;rw[heq,getD_both hun]at h1;cases h1
   have h2:=bw hoj (hfree j oj hoj hji hjun hnot) hy h1;have hfree' :∀k ok,ops[k]?=some ok->k≠i->(listed.setIfInBounds j true).getD k true=false->
     (∀e∈ok.after,Region.binds md e=true->e.on≠i)->oi.apart ops ok=true:=λk ok hk hki hun hno=>by
    refine hfree k ok hk hki ?_ hno;by_cases hjk:j=k
    ·subst hjk;exact hjun
    ·rw[nD true hjk]at hun;exact hun
   refine ah (λa' h3=>ih (listed.setIfInBounds j true) a' (inv.set hj hjn) hfree' (mS hr (lK hji)) h3.1 ?_) h2;rw[mY _ _ hji];exact h3.2
def D6 (P:Program):List (Option Tmp)->List Oper->(St->Prop)->St->Prop
 | _,[],K,s=>K s
 | ds,o::r,K,s=>Ix ds o s (Kj P o s λv=>D6 P (ds++[o.dst]) r K (s.put o.dst v)) (D6 P (ds++[o.dst]) r K (s.put o.dst .un))
theorem Un {ds:List (Option Tmp)}{o:Oper}{A B:Prop}(hds :∀(j:Nat) d,ds[j]?=some d->(ops[j]?).map (·.dst)=some d)(h:Ix ds o s A B):
  (Fa ops o s=some true/\A)∨(Fa ops o s=some false/\B):=by
 unfold Ix at h;unfold Fa;split at h
 ·rename_i hg;rw[hg];exact .inl ⟨rfl,h⟩
 ·rename_i j want hg;rw[hg];dsimp only;split at h
  ·rename_i t ht;unfold ZG at h;split at h
   ·rename_i b hb;have:=hds j _ ht;have hj:(ops[j]?).bind (·.dst)=some t:=by
     cases ho:ops[j]? with
     | none=>rw[ho]at this;cases this
     | some oj=>rw[ho]at this;simpa using this
    rw[hj];dsimp only;rw[hb];by_cases hbw:b=want
    ·exact .inl ⟨by simp[hbw],h.1 hbw⟩
    ·exact .inr ⟨by simp[hbw],h.2 hbw⟩
   ·rename_i hb;have:=hds j _ ht;have hj:(ops[j]?).bind (·.dst)=some t:=by
     cases ho:ops[j]? with
     | none=>rw[ho]at this;cases this
     | some oj=>rw[ho]at this;simpa using this
    rw[hj];dsimp only;rw[hb];exact .inr ⟨rfl,h⟩
   ·exact h.elim
  ·exact h.elim
theorem SY {n g:Nat}{K:St->Prop}(htail :∀listed,HeadInv md ops n listed->∀i,i<n->listed.getD i true=false->∀t,n<=t->t ∉ Region.ready md ops listed):
  ∀(l:List Oper) (ds:List (Option Tmp)) (listed:Array Bool) (s:St),(∀(j:Nat),j<l.length->l[j]?=ops[ds.length+j]?)->(∀(j:Nat) d,ds[j]?=some d->(ops[j]?).map (·.dst)=some d)->ds.length+l.length=n->HeadInv md ops n listed->
  Region.lexHead md ops g l.length ds.length listed=true->D6 P ds l K s->
  Vw P md ops n (λlisted' s'=>Region.seqB md ops g n listed'=true/\K s') l.length listed s
 | [],ds,listed,s,_,_,hk,_,hB,h=>by
  have:ds.length=n:=by simpa using hk
  subst this;exact⟨by simpa [Region.lexHead] using hB,h⟩
 | o::l,ds,listed,s,hl,hds,hk,inv,hB,h=>by
  have h0:ops[ds.length]?=some o:=by simpa using (hl 0 (by simp)).symm
  simp only[kQ,Region.lexHead,kF]at hB;obtain⟨⟨hr,hf⟩,hB'⟩:=hB;have hkn:ds.length<n:=by simp only[kQ]at hk;omega
  have hr':ds.length∈Region.ready md ops listed:=by simpa using hr
  have hds' :∀(j:Nat) d,(ds++[o.dst])[j]?=some d->(ops[j]?).map (·.dst)=some d:=λj d hj=>by
   rcases lH j ds.length with h1|h1|h1
   ·rw[jr h1]at hj;exact hds j d hj
   ·subst h1;rw[Jh,jh]at hj;rw[h0];simp[hj]
   ·rw[kq (by simp;omega)]at hj;cases hj
  have hrec:∀s',D6 P (ds++[o.dst]) l K s'->Vw P md ops n (λlisted' s'=>Region.seqB md ops g n listed'=true/\K s') l.length (listed.setIfInBounds ds.length true) s':=λs' hs'=>
   SY htail l (ds++[o.dst]) _ s' (λj hj=>by
    have:=hl (j+1) (by simp;omega);simp only[kT]at this;rw[this];congr 1;simp;omega) hds' (by simp only[kQ,kD,lE]at hk⊢;omega) (inv.set hr' hkn) (by simpa using hB') hs'
  have hfirst:∀v,YA P ops o v s->D6 P (ds++[o.dst]) l K (s.put o.dst v)->Vw P md ops n (λlisted' s'=>Region.seqB md ops g n listed'=true/\K s') (l.length+1) listed s:=λv hy hK=>
   YY h0 htail hkn (λlisted' s' hL=>seqB_ready hL.1) l.length listed s inv (nb h0 hf) hr' hy (hrec _ hK)
  simp only[D6]at h;rcases Un hds h with ⟨hw,h1⟩|⟨hw,h1⟩
  ·obtain⟨v,hK,hstep⟩:=Vr h1;exact hfirst v (.inl ⟨hw,hstep⟩) hK
  ·exact hfirst .un (.inr ⟨hw,rfl⟩) h1
theorem Rel.drew (hr:Rel F os s a w):Rel F os s a w.drew/\Ext F os w F os w.drew k:=by
 have:=hr.Wz (k:=k) (w':=w.drew) (b:=none) ⟨rfl,rfl,rfl,jv _,λ_ _ _=>rfl⟩ (by simp) (FH.refl os) (λi o ho=>.inl ⟨ho,by simp⟩) hr.inj (λo ho g hg=>.inr ⟨o,ho,hg⟩) (by simp);refine⟨?_,this.2.1⟩;have h1:=this.1;rw[hr.st]at h1;exact h1
theorem Sq (n:Nat):HeadInv .any ops n (Array.replicate ops.size false):=
 ⟨by simp,λj oj _ hl=>(by rw[getD_replicate_false]at hl;cases hl),λt _ ht=>getD_in (by simpa using ht) (getD_replicate_false _ _)⟩
theorem Cd {id:Nat}{Q:Exit->St->Prop}(hm:P.follows .mixedOrders=true)(hB:Region.lexHead .any ops 0 ops.size 0 (Array.replicate ops.size false)=true)(hd:(ops.toList.all λo=>DC s.n o.dst)=true)
  (h:D6 P [] ops.toList (λs'=>Q .normal s') s):AW P k (.region id ops true) Q s:=by
 intro F os a w hr;obtain⟨hr1,he1⟩:=hr.drew (k:=k);refine nU hm ?_;have H:=SY (md:=.any) (ops:=ops) (n:=ops.size) (g:=0) (K:=λs'=>Q .normal s') (P:=P) (λlisted _ i _ _ t ht hr=>by
   obtain⟨_,o,ho,_⟩:=mV.1 hr;have:=(kR.1 ho).1;omega) ops.toList [] _ s (by simp) (by simp) (by simp) (Sq _) (by simpa using hB) h
 have:=ML (k:=k) (g:=0) (N:=s.n) (Q':=J5 k Q F os w) (F0:=F) (os0:=os) (w0:=w) (λo ho=>jq.1 hd o ho) (λlisted s' F' os' a' w' _ hL hr' he=>by
  refine⟨by simpa [Region.seqB] using hL.1,?_⟩;exact⟨s',F',os',hL.2,hr',he⟩) _ _ s F os a w.drew rfl H hr1 he1
 simpa using this
end Go.Abs
