import Derived.Test.YtccficmcdkcpnaaGreatAbsI
set_option linter.all false
namespace Go.Abs
open Go
variable {P : Program} {F : Nat -> Prop} {os : List Own} {s : St} {a : Act} {w : World} {k : Nat} {ops : Array Oper} {md : Region.Mode}
theorem dN {o:Oper}{v:AV}(hr:Rel F os s a w)(hd:Ce s.n o.dst=true)(h:LZ P o s (·=v)){next:Act->World->Prop}{Q:Exit->Act->World->Prop}
  (hn :∀a' w',Step k s.n F os w (·=s.put o.dst v) a' w'->next a' w'):o.wp P a w next Q:=by
 have hq:Is P s o.op (·=v)->o.wp P a w next Q:=λh=>by
  obtain⟨x,u,rfl,h2,h3⟩:=RP hr h;unfold Oper.wp;rw[h2];exact hn _ _ ⟨_,F,os,by cases o.dst<;>rfl,rfl,hr.put hd h3,Ext.refl _ _ _ _⟩
 unfold LZ at h;split at h
 ·obtain⟨v',h1,rfl⟩:=h;exact h1 s rfl (λ_ _=>rfl) hd k F os a w hr next Q hn
 ·exact hq h
def HJ (ops:Array Oper)(o:Oper)(s:St):Option Bool:=
 match o.guard with
 | none=>some true
 | some (j,want)=>match (ops[j]?).bind (·.dst) with
  | some t=>match s.env t with
   | .bool b=>some (b==want)
   | .un=>some false
   | _=>none
  | none=>none
theorem Tt (hr:Rel F os s a w)(sT :∀o∈ops.toList,Ce s.n o.dst=true){o:Oper}{b:Bool}(h:HJ ops o s=some b):Region.wanted o (yielded ops a.tmps)=b:=by
 unfold HJ at h;unfold Region.wanted;split at h
 ·rename_i hg;rw[hg];simpa using h
 ·rename_i j want hg;rw[hg];dsimp only;split at h
  ·rename_i t ht;split at h
   ·rename_i b' hb;simp only[mU]at h;have hj:(ops[j]?).map (·.dst)=some (some t):=by
     cases ho:ops[j]? with
     | none=>rw[ho]at ht;cases ht
     | some oj=>rw[ho]at ht;simpa using ht
    have rh:t<s.n:=by
     cases ho:ops[j]? with
     | none=>rw[ho]at ht;cases ht
     | some oj=>
      rw[ho]at ht;simp only[mR]at ht;have:=sT oj (by have:=mS (l:=ops.toList) (i:=j) (by simpa using ho);exact this);rw[ht]at this;simpa [Ce] using this
    rw[Tl hr hj rh hb,<- h];cases b'<;>cases want<;>rfl
   ·rename_i hb;simp only[mU]at h;have hj:(ops[j]?).map (·.dst)=some (some t):=by
     cases ho:ops[j]? with
     | none=>rw[ho]at ht;cases ht
     | some oj=>rw[ho]at ht;simpa using ht
    have rh:t<s.n:=by
     cases ho:ops[j]? with
     | none=>rw[ho]at ht;cases ht
     | some oj=>
      rw[ho]at ht;simp only[mR]at ht;have:=sT oj (by have:=mS (l:=ops.toList) (i:=j) (by simpa using ho);exact this);rw[ht]at this;simpa [Ce] using this
    rw[T2 hr hj rh hb,<- h];rfl
   ·cases h
  ·cases h
def YA (P:Program)(ops:Array Oper)(o:Oper)(v:AV)(s:St):Prop:=
 (HJ ops o s=some true/\LZ P o s (·=v))∨(HJ ops o s=some false/\v=.un)
def O3 (P:Program)(ops:Array Oper)(i:Nat)(K:St->Prop)(s:St):Prop:=
 match ops[i]? with
 | none=>K s
 | some o=>∃v,YA P ops o v s/\K (s.put o.dst v)
theorem aH {i:Nat}{K K':St->Prop}(h :∀s,K s->K' s)(hh:O3 P ops i K s):O3 P ops i K' s:=by
 unfold O3 at *;split
 ·exact h _ (by simpa [*] using hh)
 ·rename_i o ho;simp only[ho]at hh;obtain⟨v,h1,h2⟩:=hh;exact⟨v,h1,h _ h2⟩
theorem YA.keep {oi:Oper}{v:AV}{d:Option Tmp}{u:AV}(hy:YA P ops oi v s)(hd :∀t,d=some t->t ∉ oi.looksAt ops):YA P ops oi v (s.put d u):=by
 have hev:∀x∈oi.op.operands,(s.put d u).ev x=s.ev x:=λx hx=>Uk λt ht hxt=>hd t ht (by
  subst hxt;exact List.mem_append_left _ (oM.2 ⟨.tmp t,by simpa using hx,rfl⟩))
 have hw:HJ ops oi (s.put d u)=HJ ops oi s:=by
  unfold HJ;cases hg:oi.guard with
  | none=>rfl
  | some p=>
   obtain⟨j,want⟩:=p;dsimp only;cases ht:(ops[j]?).bind (·.dst) with
   | none=>rfl
   | some t=>
    dsimp only;have:(s.put d u).env t=s.env t:=Uk (x:=.tmp t) λt' ht' e=>hd t' ht' (by
     cases e;exact List.mem_append_right _ (by simp[hg,ht]))
    rw[this]
 unfold YA at *;rw[hw];exact hy.imp (λh=>⟨h.1,SA (cO _ _ _) hev h.2⟩) id
theorem eC {j:Nat}{oi oj:Oper}{v:AV}(hj:ops[j]?=some oj)(hap:oi.apart ops oj=true){K:St->Prop}(hy:YA P ops oi v s)(h:O3 P ops j K (s.put oi.dst v)):
  O3 P ops j (λs'=>YA P ops oi v s'/\K (s'.put oi.dst v)) s:=by
 obtain⟨h1,h2,h3⟩:=Oper.apart_spec hap;unfold O3 at *;simp only[hj] at *;obtain⟨u,hu,hK⟩:=h;refine⟨u,?_,hy.keep h3,by rw[<- put_comm s v u h2];exact hK⟩;have hev:∀x∈oj.op.operands,s.ev x=(s.put oi.dst v).ev x:=λx hx=>(Uk λt ht hxt=>h1 t ht (by
  subst hxt;exact List.mem_append_left _ (oM.2 ⟨.tmp t,by simpa using hx,rfl⟩))).symm
 have hw:HJ ops oj s=HJ ops oj (s.put oi.dst v):=by
  unfold HJ;cases hg:oj.guard with
  | none=>rfl
  | some p=>
   obtain⟨j,want⟩:=p;dsimp only;cases ht:(ops[j]?).bind (·.dst) with
   | none=>rfl
   | some t=>
    dsimp only;have:(s.put oi.dst v).env t=s.env t:=Uk (x:=.tmp t) λt' ht' e=>h1 t' ht' (by
     cases e;exact List.mem_append_right _ (by simp[hg,ht]))
    rw[this]
 unfold YA at *;rw[hw];exact hu.imp (λh=>⟨h.1,SA (cO _ _ _).symm hev h.2⟩) id
def WA (P:Program)(md:Region.Mode)(ops:Array Oper)(n:Nat)(L:Array Bool->St->Prop):Nat->Array Bool->St->Prop
 | 0,rF,s=>L rF s
 | f+1,rF,s=>Region.ready md ops rF≠[]/\∀i∈Region.ready md ops rF,i<n/\O3 P ops i (WA P md ops n L f (rF.setIfInBounds i true)) s
theorem Wf {i:Nat}{K:St->Prop}(sT :∀o∈ops.toList,Ce s.n o.dst=true)(hr:Rel F os s a w)(h:O3 P ops i K s){next:Act->World->Prop}{Q:Exit->Act->World->Prop}
  (hn :∀a' w',Step k s.n F os w K a' w'->next a' w'):wpOp P ops Q i next a w:=by
 unfold O3 at h;unfold wpOp;split
 ·rename_i ho;simp only[ho]at h;exact hn a w ⟨s,F,os,rfl,h,hr,Ext.refl _ _ _ _⟩
 ·rename_i o ho;simp only[ho]at h;obtain⟨v,hy,hK⟩:=h;have wm:=sT o (by have:=mS (l:=ops.toList) (i:=i) (by simpa using ho);exact this);rcases hy with ⟨hw,hs⟩|⟨hw,rfl⟩
  ·rw[me (Tt hr sT hw)];refine .inl (dN (k:=k) hr wm hs ?_);rintro a' w' ⟨s',F',os',h1,rfl,h3,h4⟩;exact hn a' w' ⟨_,F',os',h1,hK,h3,h4⟩
  ·rw[mj (by rw[Tt hr sT hw];simp)];exact hn _ w ⟨_,F,os,by cases o.dst<;>rfl,hK,hr.un wm,Ext.refl _ _ _ _⟩
theorem Lx {n g N:Nat}{L:Array Bool->St->Prop}{Q':Exit->Act->World->Prop}{F0:Nat->Prop}{os0:List Own}{w0:World}(sT :∀o∈ops.toList,Ce N o.dst=true)
  (hL :∀rF s F os a w,s.n=N->L rF s->Rel F os s a w->Ext F0 os0 w0 F os w k->wpAny P md ops Q' g rF a w) :
  ∀(f:Nat) (rF:Array Bool) (s:St) F os a w,s.n=N->WA P md ops n L f rF s->Rel F os s a w->Ext F0 os0 w0 F os w k->wpAny P md ops Q' (f+g) rF a w
 | 0,rF,s,F,os,a,w,hn,h,hr,he=>by rw[ns];exact hL _ _ _ _ _ _ hn h hr he
 | f+1,rF,s,F,os,a,w,hn,h,hr,he=>by
  rw[show f+1+g=(f+g)+1 by omega];refine⟨λh0=>absurd h0 h.1,λi hi=>?_⟩;refine Wf (k:=k) (by rw[hn];exact sT) hr (h.2 i hi).2 ?_;rintro a' w' ⟨s',F',os',h1,h2,h3,h4⟩;exact Lx sT hL f _ s' F' os' a' w' (h1.trans hn) h2 h3 (he.trans h4)
theorem ZG {n i:Nat}{oi:Oper}{v:AV}{L:Array Bool->St->Prop}(hi:ops[i]?=some oi)
  (vW :∀rF,HeadInv md ops n rF->∀i,i<n->rF.getD i true=false->∀t,n<=t->t ∉ Region.ready md ops rF) (tE:i<n)
  (hdone :∀rF s,L rF s->∀j∈Region.ready md ops rF,n<=j) :
  ∀(f:Nat) (rF:Array Bool) (s:St),HeadInv md ops n rF->
   (∀j oj,ops[j]?=some oj->j≠i->rF.getD j true=false->(∀e∈oj.after,Region.binds md e=true->e.on≠i)->oi.apart ops oj=true)->
   i∈Region.ready md ops rF->YA P ops oi v s->
   WA P md ops n L f (rF.setIfInBounds i true) (s.put oi.dst v)->WA P md ops n L (f+1) rF s:=by
 have vx:∀{K:St->Prop} {s:St},YA P ops oi v s->K (s.put oi.dst v)->O3 P ops i K s:=λ{K s} hy h=>by
  unfold O3;simp only[hi];exact⟨v,hy,h⟩
 intro f
 induction f with
 | zero=>
  intro rF s inv _ hr hy H;have vQ:=(qX.1 hr).1;refine⟨λh=>(by rw[h]at hr;cases hr),λj hj=>?_⟩;have hjn:j<n:=by
   rcases pC j n with h|h
   ·exact h
   ·exact absurd hj (vW _ inv i tE vQ j h)
  refine⟨hjn,?_⟩;by_cases vD:j=i
  ·subst vD;exact vx hy H
  ·have:=hdone _ _ H j (qO hj vD);omega
 | succ f ih=>
  intro rF s inv vX hr hy H;have vQ:=(qX.1 hr).1;refine⟨λh=>(by rw[h]at hr;cases hr),λj hj=>?_⟩;have hjn:j<n:=by
   rcases pC j n with h|h
   ·exact h
   ·exact absurd hj (vW _ inv i tE vQ j h)
  refine⟨hjn,?_⟩;by_cases vD:j=i
  ·subst vD;exact vx hy H
  ·have h1:=(H.2 j (qO hj vD)).2;obtain⟨wH,oj,hoj,tG⟩:=qX.1 hj;have xZ:∀e∈oj.after,Region.binds md e=true->e.on≠i:=λe he hb heq=>by
    have h1:=tG e he hb;rw[heq,getD_both vQ]at h1;cases h1
   have h2:=eC hoj (vX j oj hoj vD wH xZ) hy h1;have zD :∀k ok,ops[k]?=some ok->k≠i->(rF.setIfInBounds j true).getD k true=false->
     (∀e∈ok.after,Region.binds md e=true->e.on≠i)->oi.apart ops ok=true:=λk ok hk vY vQ hno=>by
    refine vX k ok hk vY ?_ hno;by_cases hjk:j=k
    ·subst hjk;exact wH
    ·rw[getD_set_ne true hjk]at vQ;exact vQ
   refine aH (λa' h3=>ih (rF.setIfInBounds j true) a' (inv.set hj hjn) zD (qO hr (oT vD)) h3.1 ?_) h2;rw[Array.setIfInBounds_comm _ _ vD];exact h3.2
def DI (P:Program):List (Option Tmp)->List Oper->(St->Prop)->St->Prop
 | _,[],K,s=>K s
 | ds,o::r,K,s=>JJ ds o s (LZ P o s λv=>DI P (ds++[o.dst]) r K (s.put o.dst v)) (DI P (ds++[o.dst]) r K (s.put o.dst .un))
theorem au {ds:List (Option Tmp)}{o:Oper}{A B:Prop}(ug :∀(j:Nat) d,ds[j]?=some d->(ops[j]?).map (·.dst)=some d)(h:JJ ds o s A B):
  (HJ ops o s=some true/\A)∨(HJ ops o s=some false/\B):=by
 unfold JJ at h;unfold HJ;split at h
 ·rename_i hg;rw[hg];exact .inl ⟨rfl,h⟩
 ·rename_i j want hg;rw[hg];dsimp only;split at h
  ·rename_i t ht;unfold Yo at h;split at h
   ·rename_i b hb;have:=ug j _ ht;have hj:(ops[j]?).bind (·.dst)=some t:=by
     cases ho:ops[j]? with
     | none=>rw[ho]at this;cases this
     | some oj=>rw[ho]at this;simpa using this
    rw[hj];dsimp only;rw[hb];by_cases vw:b=want
    ·exact .inl ⟨by simp[vw],h.1 vw⟩
    ·exact .inr ⟨by simp[vw],h.2 vw⟩
   ·rename_i hb;have:=ug j _ ht;have hj:(ops[j]?).bind (·.dst)=some t:=by
     cases ho:ops[j]? with
     | none=>rw[ho]at this;cases this
     | some oj=>rw[ho]at this;simpa using this
    rw[hj];dsimp only;rw[hb];exact .inr ⟨rfl,h⟩
   ·exact h.elim
  ·exact h.elim
theorem Th {n g:Nat}{K:St->Prop}(vW :∀rF,HeadInv md ops n rF->∀i,i<n->rF.getD i true=false->∀t,n<=t->t ∉ Region.ready md ops rF):
  ∀(l:List Oper) (ds:List (Option Tmp)) (rF:Array Bool) (s:St),(∀(j:Nat),j<l.length->l[j]?=ops[ds.length+j]?)->(∀(j:Nat) d,ds[j]?=some d->(ops[j]?).map (·.dst)=some d)->ds.length+l.length=n->HeadInv md ops n rF->
  Region.lexHead md ops g l.length ds.length rF=true->DI P ds l K s->
  WA P md ops n (λlisted' s'=>Region.seqB md ops g n listed'=true/\K s') l.length rF s
 | [],ds,rF,s,_,_,hk,_,hB,h=>by
  have:ds.length=n:=by simpa using hk
  subst this;exact⟨by simpa [Region.lexHead] using hB,h⟩
 | o::l,ds,rF,s,hl,ug,hk,inv,hB,h=>by
  have h0:ops[ds.length]?=some o:=by simpa using (hl 0 (by simp)).symm
  simp only[nE,Region.lexHead,mh]at hB;obtain⟨⟨hr,hf⟩,hB'⟩:=hB;have hkn:ds.length<n:=by simp only[nE]at hk;omega
  have sw:ds.length∈Region.ready md ops rF:=by simpa using hr
  have uw :∀(j:Nat) d,(ds++[o.dst])[j]?=some d->(ops[j]?).map (·.dst)=some d:=λj d hj=>by
   rcases oI j ds.length with h1|h1|h1
   ·rw[mg h1]at hj;exact ug j d hj
   ·subst h1;rw[IL,mU]at hj;rw[h0];simp[hj]
   ·rw[nG (by simp;omega)]at hj;cases hj
  have rv:∀s',DI P (ds++[o.dst]) l K s'->WA P md ops n (λlisted' s'=>Region.seqB md ops g n listed'=true/\K s') l.length (rF.setIfInBounds ds.length true) s':=λs' uD=>
   Th vW l (ds++[o.dst]) _ s' (λj hj=>by
    have:=hl (j+1) (by simp;omega);simp only[nV]at this;rw[this];congr 1;simp;omega) uw (by simp only[nE,nW,nj]at hk⊢;omega) (inv.set sw hkn) (by simpa using hB') uD
  have wo:∀v,YA P ops o v s->DI P (ds++[o.dst]) l K (s.put o.dst v)->WA P md ops n (λlisted' s'=>Region.seqB md ops g n listed'=true/\K s') (l.length+1) rF s:=λv hy hK=>
   ZG h0 vW hkn (λlisted' s' hL=>seqB_ready hL.1) l.length rF s inv (Region.free_spec h0 hf) sw hy (rv _ hK)
  simp only[DI]at h;rcases au ug h with ⟨hw,h1⟩|⟨hw,h1⟩
  ·obtain⟨v,hK,vx⟩:=bW h1;exact wo v (.inl ⟨hw,vx⟩) hK
  ·exact wo .un (.inr ⟨hw,rfl⟩) h1
theorem Rel.drew (hr:Rel F os s a w):Rel F os s a w.drew/\Ext F os w F os w.drew k:=by
 have:=hr.V9 (k:=k) (w':=w.drew) (b:=none) ⟨rfl,rfl,rfl,ml _,λ_ _ _=>rfl⟩ (by simp) (DX.refl os) (λi o ho=>.inl ⟨ho,by simp⟩) hr.inj (λo ho g hg=>.inr ⟨o,ho,hg⟩) (by simp);refine⟨?_,this.2.1⟩;have h1:=this.1;rw[hr.st]at h1;exact h1
theorem XB (n:Nat):HeadInv .any ops n (Array.replicate ops.size false):=
 ⟨by simp,λj oj _ hl=>(by rw[getD_replicate_false]at hl;cases hl),λt _ ht=>getD_in (by simpa using ht) (getD_replicate_false _ _)⟩
theorem Bv {id:Nat}{Q:Exit->St->Prop}(hm:P.follows .mixedOrders=true)(hB:Region.lexHead .any ops 0 ops.size 0 (Array.replicate ops.size false)=true)(hd:(ops.toList.all λo=>Ce s.n o.dst)=true)
  (h:DI P [] ops.toList (λs'=>Q .normal s') s):AW P k (.region id ops true) Q s:=by
 intro F os a w hr;obtain⟨zE,he1⟩:=hr.drew (k:=k);refine wp_region_any hm ?_;have H:=Th (md:=.any) (ops:=ops) (n:=ops.size) (g:=0) (K:=λs'=>Q .normal s') (P:=P) (λrF _ i _ _ t ht hr=>by
   obtain⟨_,o,ho,_⟩:=qX.1 hr;have:=(nN.1 ho).1;omega) ops.toList [] _ s (by simp) (by simp) (by simp) (XB _) (by simpa using hB) h
 have:=Lx (k:=k) (g:=0) (N:=s.n) (Q':=OY k Q F os w) (F0:=F) (os0:=os) (w0:=w) (λo ho=>ma.1 hd o ho) (λrF s' F' os' a' w' _ hL sw he=>by
  refine⟨by simpa [Region.seqB] using hL.1,?_⟩;exact⟨s',F',os',hL.2,sw,he⟩) _ _ s F os a w.drew rfl H zE he1
 simpa using this
end Go.Abs
