import Derived.Test.YtccficmcdkcpnaaGreatAbsI
set_option linter.all false
namespace Go.Abs
open Go
variable {P : Program} {F : Nat -> Prop} {os : List Own} {s : St} {a : Act} {w : World} {k : Nat} {ops : Array Oper} {md : Region.Mode}
theorem lT {o:Oper}{v:AV}(hr:Rel F os s a w)(hd:DK s.n o.dst=true)(h:Ol P o s (·=v)){next:Act->World->Prop}{Q:Exit->Act->World->Prop}
  (hn :∀a' w',Step k s.n F os w (·=s.put o.dst v) a' w'->next a' w'):o.wp P a w next Q:=by
 have hq:La P s o.op (·=v)->o.wp P a w next Q:=λh=>by
  obtain⟨x,u,rfl,h2,h3⟩:=U5 hr h;unfold Oper.wp;rw[h2];exact hn _ _ ⟨_,F,os,by cases o.dst<;>rfl,rfl,hr.put hd h3,Ext.refl _ _ _ _⟩
 unfold Ol at h;split at h
 ·obtain⟨v',h1,rfl⟩:=h;exact h1 s rfl (λ_ _=>rfl) hd k F os a w hr next Q hn
 ·exact hq h
def Jr (ops:Array Oper)(o:Oper)(s:St):Option Bool:=
 match o.guard with
 | none=>some true
 | some (j,want)=>match (ops[j]?).bind (·.dst) with
  | some t=>match s.env t with
   | .bool b=>some (b==want)
   | .un=>some false
   | _=>none
  | none=>none
theorem Xx (hr:Rel F os s a w)(hdst :∀o∈ops.toList,DK s.n o.dst=true){o:Oper}{b:Bool}(h:Jr ops o s=some b):Region.wanted o (yielded ops a.tmps)=b:=by
 unfold Jr at h;unfold Region.wanted;split at h
 ·rename_i hg;rw[hg];simpa using h
 ·rename_i j want hg;rw[hg];dsimp only;split at h
  ·rename_i t ht;split at h
   ·rename_i b' hb;simp only[uO]at h;have hj:(ops[j]?).map (·.dst)=some (some t):=by
     cases ho:ops[j]? with
     | none=>rw[ho]at ht;cases ht
     | some oj=>rw[ho]at ht;simpa using ht
    have hlt:t<s.n:=by
     cases ho:ops[j]? with
     | none=>rw[ho]at ht;cases ht
     | some oj=>
      rw[ho]at ht;simp only[uJ]at ht;have:=hdst oj (by have:=uL (l:=ops.toList) (i:=j) (by simpa using ho);exact this);rw[ht]at this;simpa [DK] using this
    rw[Xq hr hj hlt hb,<- h];cases b'<;>cases want<;>rfl
   ·rename_i hb;simp only[uO]at h;have hj:(ops[j]?).map (·.dst)=some (some t):=by
     cases ho:ops[j]? with
     | none=>rw[ho]at ht;cases ht
     | some oj=>rw[ho]at ht;simpa using ht
    have hlt:t<s.n:=by
     cases ho:ops[j]? with
     | none=>rw[ho]at ht;cases ht
     | some oj=>
      rw[ho]at ht;simp only[uJ]at ht;have:=hdst oj (by have:=uL (l:=ops.toList) (i:=j) (by simpa using ho);exact this);rw[ht]at this;simpa [DK] using this
    rw[Xs hr hj hlt hb,<- h];rfl
   ·cases h
  ·cases h
def YA (P:Program)(ops:Array Oper)(o:Oper)(v:AV)(s:St):Prop:=
 (Jr ops o s=some true/\Ol P o s (·=v))∨(Jr ops o s=some false/\v=.un)
def Sr (P:Program)(ops:Array Oper)(i:Nat)(K:St->Prop)(s:St):Prop:=
 match ops[i]? with
 | none=>K s
 | some o=>∃v,YA P ops o v s/\K (s.put o.dst v)
theorem jm {i:Nat}{K K':St->Prop}(h :∀s,K s->K' s)(hh:Sr P ops i K s):Sr P ops i K' s:=by
 unfold Sr at *;split
 ·exact h _ (by simpa [*] using hh)
 ·rename_i o ho;simp only[ho]at hh;obtain⟨v,h1,h2⟩:=hh;exact⟨v,h1,h _ h2⟩
theorem YA.keep {oi:Oper}{v:AV}{d:Option Tmp}{u:AV}(hy:YA P ops oi v s)(hd :∀t,d=some t->t ∉ oi.looksAt ops):YA P ops oi v (s.put d u):=by
 have hev:∀x∈oi.op.operands,(s.put d u).ev x=s.ev x:=λx hx=>Yn λt ht hxt=>hd t ht (by
  subst hxt;exact List.mem_append_left _ (wT.2 ⟨.tmp t,by simpa using hx,rfl⟩))
 have hw:Jr ops oi (s.put d u)=Jr ops oi s:=by
  unfold Jr;cases hg:oi.guard with
  | none=>rfl
  | some p=>
   obtain⟨j,want⟩:=p;dsimp only;cases ht:(ops[j]?).bind (·.dst) with
   | none=>rfl
   | some t=>
    dsimp only;have:(s.put d u).env t=s.env t:=Yn (x:=.tmp t) λt' ht' e=>hd t' ht' (by
     cases e;exact List.mem_append_right _ (by simp[hg,ht]))
    rw[this]
 unfold YA at *;rw[hw];exact hy.imp (λh=>⟨h.1,V3 (jv _ _ _) hev h.2⟩) id
theorem lp {j:Nat}{oi oj:Oper}{v:AV}(hj:ops[j]?=some oj)(hap:oi.apart ops oj=true){K:St->Prop}(hy:YA P ops oi v s)(h:Sr P ops j K (s.put oi.dst v)):
  Sr P ops j (λs'=>YA P ops oi v s'/\K (s'.put oi.dst v)) s:=by
 obtain⟨h1,h2,h3⟩:=Oper.apart_spec hap;unfold Sr at *;simp only[hj] at *;obtain⟨u,hu,hK⟩:=h;refine⟨u,?_,hy.keep h3,by rw[<- put_comm s v u h2];exact hK⟩;have hev:∀x∈oj.op.operands,s.ev x=(s.put oi.dst v).ev x:=λx hx=>(Yn λt ht hxt=>h1 t ht (by
  subst hxt;exact List.mem_append_left _ (wT.2 ⟨.tmp t,by simpa using hx,rfl⟩))).symm
 have hw:Jr ops oj s=Jr ops oj (s.put oi.dst v):=by
  unfold Jr;cases hg:oj.guard with
  | none=>rfl
  | some p=>
   obtain⟨j,want⟩:=p;dsimp only;cases ht:(ops[j]?).bind (·.dst) with
   | none=>rfl
   | some t=>
    dsimp only;have:(s.put oi.dst v).env t=s.env t:=Yn (x:=.tmp t) λt' ht' e=>h1 t' ht' (by
     cases e;exact List.mem_append_right _ (by simp[hg,ht]))
    rw[this]
 unfold YA at *;rw[hw];exact hu.imp (λh=>⟨h.1,V3 (jv _ _ _).symm hev h.2⟩) id
def Z1 (P:Program)(md:Region.Mode)(ops:Array Oper)(n:Nat)(L:Array Bool->St->Prop):Nat->Array Bool->St->Prop
 | 0,zU,s=>L zU s
 | f+1,zU,s=>Region.ready md ops zU≠[]/\∀i∈Region.ready md ops zU,i<n/\Sr P ops i (Z1 P md ops n L f (zU.setIfInBounds i true)) s
theorem bI {i:Nat}{K:St->Prop}(hdst :∀o∈ops.toList,DK s.n o.dst=true)(hr:Rel F os s a w)(h:Sr P ops i K s){next:Act->World->Prop}{Q:Exit->Act->World->Prop}
  (hn :∀a' w',Step k s.n F os w K a' w'->next a' w'):wpOp P ops Q i next a w:=by
 unfold Sr at h;unfold wpOp;split
 ·rename_i ho;simp only[ho]at h;exact hn a w ⟨s,F,os,rfl,h,hr,Ext.refl _ _ _ _⟩
 ·rename_i o ho;simp only[ho]at h;obtain⟨v,hy,hK⟩:=h;have hod:=hdst o (by have:=uL (l:=ops.toList) (i:=i) (by simpa using ho);exact this);rcases hy with ⟨hw,hs⟩|⟨hw,rfl⟩
  ·rw[uX (Xx hr hdst hw)];refine .inl (lT (k:=k) hr hod hs ?_);rintro a' w' ⟨s',F',os',h1,rfl,h3,h4⟩;exact hn a' w' ⟨_,F',os',h1,hK,h3,h4⟩
  ·rw[uY (by rw[Xx hr hdst hw];simp)];exact hn _ w ⟨_,F,os,by cases o.dst<;>rfl,hK,hr.un hod,Ext.refl _ _ _ _⟩
theorem PX {n g N:Nat}{L:Array Bool->St->Prop}{Q':Exit->Act->World->Prop}{F0:Nat->Prop}{os0:List Own}{w0:World}(hdst :∀o∈ops.toList,DK N o.dst=true)
  (hL :∀zU s F os a w,s.n=N->L zU s->Rel F os s a w->Ext F0 os0 w0 F os w k->wpAny P md ops Q' g zU a w) :
  ∀(f:Nat) (zU:Array Bool) (s:St) F os a w,s.n=N->Z1 P md ops n L f zU s->Rel F os s a w->Ext F0 os0 w0 F os w k->wpAny P md ops Q' (f+g) zU a w
 | 0,zU,s,F,os,a,w,hn,h,hr,he=>by rw[vd];exact hL _ _ _ _ _ _ hn h hr he
 | f+1,zU,s,F,os,a,w,hn,h,hr,he=>by
  rw[show f+1+g=(f+g)+1 by omega];refine⟨λh0=>absurd h0 h.1,λi hi=>?_⟩;refine bI (k:=k) (by rw[hn];exact hdst) hr (h.2 i hi).2 ?_;rintro a' w' ⟨s',F',os',h1,h2,h3,h4⟩;exact PX hdst hL f _ s' F' os' a' w' (h1.trans hn) h2 h3 (he.trans h4)
theorem fH {n i:Nat}{oi:Oper}{v:AV}{L:Array Bool->St->Prop}(hi:ops[i]?=some oi)
  (htail :∀zU,HeadInv md ops n zU->∀i,i<n->zU.getD i true=false->∀t,n<=t->t ∉ Region.ready md ops zU) (hin:i<n)
  (hdone :∀zU s,L zU s->∀j∈Region.ready md ops zU,n<=j) :
  ∀(f:Nat) (zU:Array Bool) (s:St),HeadInv md ops n zU->
   (∀j oj,ops[j]?=some oj->j≠i->zU.getD j true=false->(∀e∈oj.after,Region.binds md e=true->e.on≠i)->oi.apart ops oj=true)->
   i∈Region.ready md ops zU->YA P ops oi v s->
   Z1 P md ops n L f (zU.setIfInBounds i true) (s.put oi.dst v)->Z1 P md ops n L (f+1) zU s:=by
 have hstep:∀{K:St->Prop} {s:St},YA P ops oi v s->K (s.put oi.dst v)->Sr P ops i K s:=λ{K s} hy h=>by
  unfold Sr;simp only[hi];exact⟨v,hy,h⟩
 intro f
 induction f with
 | zero=>
  intro zU s inv _ hr hy H;have hun:=(yb.1 hr).1;refine⟨λh=>(by rw[h]at hr;cases hr),λj hj=>?_⟩;have hjn:j<n:=by
   rcases wy j n with h|h
   ·exact h
   ·exact absurd hj (htail _ inv i hin hun j h)
  refine⟨hjn,?_⟩;by_cases hji:j=i
  ·subst hji;exact hstep hy H
  ·have:=hdone _ _ H j (yQ hj hji);omega
 | succ f ih=>
  intro zU s inv hfree hr hy H;have hun:=(yb.1 hr).1;refine⟨λh=>(by rw[h]at hr;cases hr),λj hj=>?_⟩;have hjn:j<n:=by
   rcases wy j n with h|h
   ·exact h
   ·exact absurd hj (htail _ inv i hin hun j h)
  refine⟨hjn,?_⟩;by_cases hji:j=i
  ·subst hji;exact hstep hy H
  ·have h1:=(H.2 j (yQ hj hji)).2;obtain⟨hjun,oj,hoj,hall⟩:=yb.1 hj;have hnot:∀e∈oj.after,Region.binds md e=true->e.on≠i:=λe he hb heq=>by
    have h1:=hall e he hb;rw[heq,getD_both hun]at h1;cases h1
   have h2:=lp hoj (hfree j oj hoj hji hjun hnot) hy h1;have hfree' :∀k ok,ops[k]?=some ok->k≠i->(zU.setIfInBounds j true).getD k true=false->
     (∀e∈ok.after,Region.binds md e=true->e.on≠i)->oi.apart ops ok=true:=λk ok hk hki hun hno=>by
    refine hfree k ok hk hki ?_ hno;by_cases hjk:j=k
    ·subst hjk;exact hjun
    ·rw[getD_set_ne true hjk]at hun;exact hun
   refine jm (λa' h3=>ih (zU.setIfInBounds j true) a' (inv.set hj hjn) hfree' (yQ hr (wR hji)) h3.1 ?_) h2;rw[Array.setIfInBounds_comm _ _ hji];exact h3.2
def DX (P:Program):List (Option Tmp)->List Oper->(St->Prop)->St->Prop
 | _,[],K,s=>K s
 | ds,o::r,K,s=>MC ds o s (Ol P o s λv=>DX P (ds++[o.dst]) r K (s.put o.dst v)) (DX P (ds++[o.dst]) r K (s.put o.dst .un))
theorem iu {ds:List (Option Tmp)}{o:Oper}{A B:Prop}(hds :∀(j:Nat) d,ds[j]?=some d->(ops[j]?).map (·.dst)=some d)(h:MC ds o s A B):
  (Jr ops o s=some true/\A)∨(Jr ops o s=some false/\B):=by
 unfold MC at h;unfold Jr;split at h
 ·rename_i hg;rw[hg];exact .inl ⟨rfl,h⟩
 ·rename_i j want hg;rw[hg];dsimp only;split at h
  ·rename_i t ht;unfold fq at h;split at h
   ·rename_i b hb;have:=hds j _ ht;have hj:(ops[j]?).bind (·.dst)=some t:=by
     cases ho:ops[j]? with
     | none=>rw[ho]at this;cases this
     | some oj=>rw[ho]at this;simpa using this
    rw[hj];dsimp only;rw[hb];by_cases hbw:b=want
    ·exact .inl ⟨by simp[hbw],h.1 hbw⟩
    ·exact .inr ⟨by simp[hbw],h.2 hbw⟩
   ·rename_i hb;have:=hds j _ ht;have hj:(ops[j]?).bind (·.dst)=some t:=by
     cases ho:ops[j]? with
     | none=>rw[ho]at this;cases this
     | some oj=>rw[ho]at this;simpa using this
    rw[hj];dsimp only;rw[hb];exact .inr ⟨rfl,h⟩
   ·exact h.elim
  ·exact h.elim
theorem Xc {n g:Nat}{K:St->Prop}(htail :∀zU,HeadInv md ops n zU->∀i,i<n->zU.getD i true=false->∀t,n<=t->t ∉ Region.ready md ops zU):
  ∀(l:List Oper) (ds:List (Option Tmp)) (zU:Array Bool) (s:St),(∀(j:Nat),j<l.length->l[j]?=ops[ds.length+j]?)->(∀(j:Nat) d,ds[j]?=some d->(ops[j]?).map (·.dst)=some d)->ds.length+l.length=n->HeadInv md ops n zU->
  Region.lexHead md ops g l.length ds.length zU=true->DX P ds l K s->
  Z1 P md ops n (λlisted' s'=>Region.seqB md ops g n listed'=true/\K s') l.length zU s
 | [],ds,zU,s,_,_,hk,_,hB,h=>by
  have:ds.length=n:=by simpa using hk
  subst this;exact⟨by simpa [Region.lexHead] using hB,h⟩
 | o::l,ds,zU,s,hl,hds,hk,inv,hB,h=>by
  have h0:ops[ds.length]?=some o:=by simpa using (hl 0 (by simp)).symm
  simp only[vD,Region.lexHead,uT]at hB;obtain⟨⟨hr,hf⟩,hB'⟩:=hB;have hkn:ds.length<n:=by simp only[vD]at hk;omega
  have hr':ds.length∈Region.ready md ops zU:=by simpa using hr
  have hds' :∀(j:Nat) d,(ds++[o.dst])[j]?=some d->(ops[j]?).map (·.dst)=some d:=λj d hj=>by
   rcases wD j ds.length with h1|h1|h1
   ·rw[uU h1]at hj;exact hds j d hj
   ·subst h1;rw[LJ,uO]at hj;rw[h0];simp[hj]
   ·rw[vf (by simp;omega)]at hj;cases hj
  have hrec:∀s',DX P (ds++[o.dst]) l K s'->Z1 P md ops n (λlisted' s'=>Region.seqB md ops g n listed'=true/\K s') l.length (zU.setIfInBounds ds.length true) s':=λs' hs'=>
   Xc htail l (ds++[o.dst]) _ s' (λj hj=>by
    have:=hl (j+1) (by simp;omega);simp only[vW]at this;rw[this];congr 1;simp;omega) hds' (by simp only[vD,uu,vl]at hk⊢;omega) (inv.set hr' hkn) (by simpa using hB') hs'
  have hfirst:∀v,YA P ops o v s->DX P (ds++[o.dst]) l K (s.put o.dst v)->Z1 P md ops n (λlisted' s'=>Region.seqB md ops g n listed'=true/\K s') (l.length+1) zU s:=λv hy hK=>
   fH h0 htail hkn (λlisted' s' hL=>seqB_ready hL.1) l.length zU s inv (Region.free_spec h0 hf) hr' hy (hrec _ hK)
  simp only[DX]at h;rcases iu hds h with ⟨hw,h1⟩|⟨hw,h1⟩
  ·obtain⟨v,hK,hstep⟩:=jT h1;exact hfirst v (.inl ⟨hw,hstep⟩) hK
  ·exact hfirst .un (.inr ⟨hw,rfl⟩) h1
theorem Rel.drew (hr:Rel F os s a w):Rel F os s a w.drew/\Ext F os w F os w.drew k:=by
 have:=hr.Z2 (k:=k) (w':=w.drew) (b:=none) ⟨rfl,rfl,rfl,uq _,λ_ _ _=>rfl⟩ (by simp) (Er.refl os) (λi o ho=>.inl ⟨ho,by simp⟩) hr.inj (λo ho g hg=>.inr ⟨o,ho,hg⟩) (by simp);refine⟨?_,this.2.1⟩;have h1:=this.1;rw[hr.st]at h1;exact h1
theorem bz (n:Nat):HeadInv .any ops n (Array.replicate ops.size false):=
 ⟨by simp,λj oj _ hl=>(by rw[getD_replicate_false]at hl;cases hl),λt _ ht=>getD_in (by simpa using ht) (getD_replicate_false _ _)⟩
theorem Cu {id:Nat}{Q:Exit->St->Prop}(hm:P.follows .mixedOrders=true)(hB:Region.lexHead .any ops 0 ops.size 0 (Array.replicate ops.size false)=true)(hd:(ops.toList.all λo=>DK s.n o.dst)=true)
  (h:DX P [] ops.toList (λs'=>Q .normal s') s):AW P k (.region id ops true) Q s:=by
 intro F os a w hr;obtain⟨hr1,he1⟩:=hr.drew (k:=k);refine wp_region_any hm ?_;have H:=Xc (md:=.any) (ops:=ops) (n:=ops.size) (g:=0) (K:=λs'=>Q .normal s') (P:=P) (λzU _ i _ _ t ht hr=>by
   obtain⟨_,o,ho,_⟩:=yb.1 hr;have:=(vR.1 ho).1;omega) ops.toList [] _ s (by simp) (by simp) (by simp) (bz _) (by simpa using hB) h
 have:=PX (k:=k) (g:=0) (N:=s.n) (Q':=SG k Q F os w) (F0:=F) (os0:=os) (w0:=w) (λo ho=>uS.1 hd o ho) (λzU s' F' os' a' w' _ hL hr' he=>by
  refine⟨by simpa [Region.seqB] using hL.1,?_⟩;exact⟨s',F',os',hL.2,hr',he⟩) _ _ s F os a w.drew rfl H hr1 he1
 simpa using this
end Go.Abs
