import Derived.Test.YtihdgoiebmfapaaGreatAbsI
set_option linter.all false
namespace Go.Abs
open Go
variable {P : Program} {F : Nat -> Prop} {os : List Own} {s : St} {a : Act} {w : World} {k : Nat} {ops : Array Oper} {md : Region.Mode}
theorem Xx {o:Oper}{v:AV}(hr:Rel F os s a w)(hd:DH s.n o.dst=true)(h:LI P o s (·=v)){next:Act->World->Prop}{Q:Exit->Act->World->Prop}
  (hn :∀a' w',Step k s.n F os w (·=s.put o.dst v) a' w'->next a' w'):o.wp P a w next Q:=by
 have hq:Je P s o.op (·=v)->o.wp P a w next Q:=λh=>by
  obtain⟨x,u,rfl,h2,h3⟩:=Rj hr h;unfold Oper.wp;rw[h2];exact hn _ _ ⟨_,F,os,by cases o.dst<;>rfl,rfl,hr.put hd h3,Ext.refl _ _ _ _⟩
 unfold LI at h;split at h
 ·obtain⟨v',h1,rfl⟩:=h;exact h1 s rfl (λ_ _=>rfl) hd k F os a w hr next Q hn
 ·exact hq h
def Ff (ops:Array Oper)(o:Oper)(s:St):Option Bool:=
 match o.guard with
 | none=>some true
 | some (j,want)=>match (ops[j]?).bind (·.dst) with
  | some t=>match s.env t with
   | .bool b=>some (b==want)
   | .un=>some false
   | _=>none
  | none=>none
theorem NK (hr:Rel F os s a w)(rW :∀o∈ops.toList,DH s.n o.dst=true){o:Oper}{b:Bool}(h:Ff ops o s=some b):Region.wanted o (yielded ops a.tmps)=b:=by
 unfold Ff at h;unfold Region.wanted;split at h
 ·rename_i hg;rw[hg];simpa using h
 ·rename_i j want hg;rw[hg];dsimp only;split at h
  ·rename_i t ht;split at h
   ·rename_i b' hb;simp only[lX]at h;have hj:(ops[j]?).map (·.dst)=some (some t):=by
     cases ho:ops[j]? with
     | none=>rw[ho]at ht;cases ht
     | some oj=>rw[ho]at ht;simpa using ht
    have qw:t<s.n:=by
     cases ho:ops[j]? with
     | none=>rw[ho]at ht;cases ht
     | some oj=>
      rw[ho]at ht;simp only[lS]at ht;have:=rW oj (by have:=lT (l:=ops.toList) (i:=j) (by simpa using ho);exact this);rw[ht]at this;simpa [DH] using this
    rw[UA hr hj qw hb,<- h];cases b'<;>cases want<;>rfl
   ·rename_i hb;simp only[lX]at h;have hj:(ops[j]?).map (·.dst)=some (some t):=by
     cases ho:ops[j]? with
     | none=>rw[ho]at ht;cases ht
     | some oj=>rw[ho]at ht;simpa using ht
    have qw:t<s.n:=by
     cases ho:ops[j]? with
     | none=>rw[ho]at ht;cases ht
     | some oj=>
      rw[ho]at ht;simp only[lS]at ht;have:=rW oj (by have:=lT (l:=ops.toList) (i:=j) (by simpa using ho);exact this);rw[ht]at this;simpa [DH] using this
    rw[T8 hr hj qw hb,<- h];rfl
   ·cases h
  ·cases h
def YA (P:Program)(ops:Array Oper)(o:Oper)(v:AV)(s:St):Prop:=
 (Ff ops o s=some true/\LI P o s (·=v))∨(Ff ops o s=some false/\v=.un)
def Pd (P:Program)(ops:Array Oper)(i:Nat)(K:St->Prop)(s:St):Prop:=
 match ops[i]? with
 | none=>K s
 | some o=>∃v,YA P ops o v s/\K (s.put o.dst v)
theorem cG {i:Nat}{K K':St->Prop}(h :∀s,K s->K' s)(hh:Pd P ops i K s):Pd P ops i K' s:=by
 unfold Pd at *;split
 ·exact h _ (by simpa [*] using hh)
 ·rename_i o ho;simp only[ho]at hh;obtain⟨v,h1,h2⟩:=hh;exact⟨v,h1,h _ h2⟩
theorem YA.keep {oi:Oper}{v:AV}{d:Option Tmp}{u:AV}(hy:YA P ops oi v s)(hd :∀t,d=some t->t ∉ oi.looksAt ops):YA P ops oi v (s.put d u):=by
 have hev:∀x∈oi.op.operands,(s.put d u).ev x=s.ev x:=λx hx=>VI λt ht hxt=>hd t ht (by
  subst hxt;exact mf _ (mu.2 ⟨.tmp t,by simpa using hx,rfl⟩))
 have hw:Ff ops oi (s.put d u)=Ff ops oi s:=by
  unfold Ff;cases hg:oi.guard with
  | none=>rfl
  | some p=>
   obtain⟨j,want⟩:=p;dsimp only;cases ht:(ops[j]?).bind (·.dst) with
   | none=>rfl
   | some t=>
    dsimp only;have:(s.put d u).env t=s.env t:=VI (x:=.tmp t) λt' wx e=>hd t' wx (by
     cases e;exact nm _ (by simp[hg,ht]))
    rw[this]
 unfold YA at *;rw[hw];exact hy.imp (λh=>⟨h.1,OY (cS _ _ _) hev h.2⟩) id
theorem eT {j:Nat}{oi oj:Oper}{v:AV}(hj:ops[j]?=some oj)(hap:oi.apart ops oj=true){K:St->Prop}(hy:YA P ops oi v s)(h:Pd P ops j K (s.put oi.dst v)):
  Pd P ops j (λs'=>YA P ops oi v s'/\K (s'.put oi.dst v)) s:=by
 obtain⟨h1,h2,h3⟩:=Oper.apart_spec hap;unfold Pd at *;simp only[hj] at *;obtain⟨u,hu,hK⟩:=h;refine⟨u,?_,hy.keep h3,by rw[<- put_comm s v u h2];exact hK⟩;have hev:∀x∈oj.op.operands,s.ev x=(s.put oi.dst v).ev x:=λx hx=>(VI λt ht hxt=>h1 t ht (by
  subst hxt;exact mf _ (mu.2 ⟨.tmp t,by simpa using hx,rfl⟩))).symm
 have hw:Ff ops oj s=Ff ops oj (s.put oi.dst v):=by
  unfold Ff;cases hg:oj.guard with
  | none=>rfl
  | some p=>
   obtain⟨j,want⟩:=p;dsimp only;cases ht:(ops[j]?).bind (·.dst) with
   | none=>rfl
   | some t=>
    dsimp only;have:(s.put oi.dst v).env t=s.env t:=VI (x:=.tmp t) λt' wx e=>h1 t' wx (by
     cases e;exact nm _ (by simp[hg,ht]))
    rw[this]
 unfold YA at *;rw[hw];exact hu.imp (λh=>⟨h.1,OY (cS _ _ _).symm hev h.2⟩) id
def Wo (P:Program)(md:Region.Mode)(ops:Array Oper)(n:Nat)(L:Array Bool->St->Prop):Nat->Array Bool->St->Prop
 | 0,qW,s=>L qW s
 | f+1,qW,s=>Region.ready md ops qW≠[]/\∀i∈Region.ready md ops qW,i<n/\Pd P ops i (Wo P md ops n L f (qW.setIfInBounds i true)) s
theorem Xd {i:Nat}{K:St->Prop}(rW :∀o∈ops.toList,DH s.n o.dst=true)(hr:Rel F os s a w)(h:Pd P ops i K s){next:Act->World->Prop}{Q:Exit->Act->World->Prop}
  (hn :∀a' w',Step k s.n F os w K a' w'->next a' w'):wpOp P ops Q i next a w:=by
 unfold Pd at h;unfold wpOp;split
 ·rename_i ho;simp only[ho]at h;exact hn a w ⟨s,F,os,rfl,h,hr,Ext.refl _ _ _ _⟩
 ·rename_i o ho;simp only[ho]at h;obtain⟨v,hy,hK⟩:=h;have vv:=rW o (by have:=lT (l:=ops.toList) (i:=i) (by simpa using ho);exact this);rcases hy with ⟨hw,hs⟩|⟨hw,rfl⟩
  ·rw[ld (NK hr rW hw)];refine .inl (Xx (k:=k) hr vv hs ?_);rintro a' w' ⟨s',F',os',h1,rfl,h3,h4⟩;exact hn a' w' ⟨_,F',os',h1,hK,h3,h4⟩
  ·rw[la (by rw[NK hr rW hw];simp)];exact hn _ w ⟨_,F,os,by cases o.dst<;>rfl,hK,hr.un vv,Ext.refl _ _ _ _⟩
theorem Mb {n g N:Nat}{L:Array Bool->St->Prop}{Q':Exit->Act->World->Prop}{F0:Nat->Prop}{os0:List Own}{w0:World}(rW :∀o∈ops.toList,DH N o.dst=true)
  (hL :∀qW s F os a w,s.n=N->L qW s->Rel F os s a w->Ext F0 os0 w0 F os w k->wpAny P md ops Q' g qW a w) :
  ∀(f:Nat) (qW:Array Bool) (s:St) F os a w,s.n=N->Wo P md ops n L f qW s->Rel F os s a w->Ext F0 os0 w0 F os w k->wpAny P md ops Q' (f+g) qW a w
 | 0,qW,s,F,os,a,w,hn,h,hr,he=>by rw[ml];exact hL _ _ _ _ _ _ hn h hr he
 | f+1,qW,s,F,os,a,w,hn,h,hr,he=>by
  rw[show f+1+g=(f+g)+1 by omega];refine⟨λh0=>absurd h0 h.1,λi hi=>?_⟩;refine Xd (k:=k) (by rw[hn];exact rW) hr (h.2 i hi).2 ?_;rintro a' w' ⟨s',F',os',h1,h2,h3,h4⟩;exact Mb rW hL f _ s' F' os' a' w' (h1.trans hn) h2 h3 (he.trans h4)
theorem ZV {n i:Nat}{oi:Oper}{v:AV}{L:Array Bool->St->Prop}(hi:ops[i]?=some oi)
  (sE :∀qW,HeadInv md ops n qW->∀i,i<n->qW.getD i true=false->∀t,n<=t->t ∉ Region.ready md ops qW) (re:i<n)
  (uw :∀qW s,L qW s->∀j∈Region.ready md ops qW,n<=j) :
  ∀(f:Nat) (qW:Array Bool) (s:St),HeadInv md ops n qW->
   (∀j oj,ops[j]?=some oj->j≠i->qW.getD j true=false->(∀e∈oj.after,Region.binds md e=true->e.on≠i)->oi.apart ops oj=true)->
   i∈Region.ready md ops qW->YA P ops oi v s->
   Wo P md ops n L f (qW.setIfInBounds i true) (s.put oi.dst v)->Wo P md ops n L (f+1) qW s:=by
 have tS:∀{K:St->Prop} {s:St},YA P ops oi v s->K (s.put oi.dst v)->Pd P ops i K s:=λ{K s} hy h=>by
  unfold Pd;simp only[hi];exact⟨v,hy,h⟩
 intro f
 induction f with
 | zero=>
  intro qW s inv _ hr hy H;have sf:=(oR.1 hr).1;refine⟨λh=>(by rw[h]at hr;cases hr),λj hj=>?_⟩;have wP:j<n:=by
   rcases nb j n with h|h
   ·exact h
   ·exact absurd hj (sE _ inv i re sf j h)
  refine⟨wP,?_⟩;by_cases sb:j=i
  ·subst sb;exact tS hy H
  ·have:=uw _ _ H j (oP hj sb);omega
 | succ f ih=>
  intro qW s inv tE hr hy H;have sf:=(oR.1 hr).1;refine⟨λh=>(by rw[h]at hr;cases hr),λj hj=>?_⟩;have wP:j<n:=by
   rcases nb j n with h|h
   ·exact h
   ·exact absurd hj (sE _ inv i re sf j h)
  refine⟨wP,?_⟩;by_cases sb:j=i
  ·subst sb;exact tS hy H
  ·have h1:=(H.2 j (oP hj sb)).2;obtain⟨tp,oj,tF,rp⟩:=oR.1 hj;have vw:∀e∈oj.after,Region.binds md e=true->e.on≠i:=λe he hb heq=>by
    have h1:=rp e he hb;rw[heq,getD_both sf]at h1;cases h1
   have h2:=eT tF (tE j oj tF sb tp vw) hy h1;have zK :∀k ok,ops[k]?=some ok->k≠i->(qW.setIfInBounds j true).getD k true=false->
     (∀e∈ok.after,Region.binds md e=true->e.on≠i)->oi.apart ops ok=true:=λk ok hk zL sf hno=>by
    refine tE k ok hk zL ?_ hno;by_cases hjk:j=k
    ·subst hjk;exact tp
    ·rw[pD true hjk]at sf;exact sf
   refine cG (λa' h3=>ih (qW.setIfInBounds j true) a' (inv.set hj wP) zK (oP hr (nK sb)) h3.1 ?_) h2;rw[oU _ _ sb];exact h3.2
def D7 (P:Program):List (Option Tmp)->List Oper->(St->Prop)->St->Prop
 | _,[],K,s=>K s
 | ds,o::r,K,s=>I2 ds o s (LI P o s λv=>D7 P (ds++[o.dst]) r K (s.put o.dst v)) (D7 P (ds++[o.dst]) r K (s.put o.dst .un))
theorem WJ {ds:List (Option Tmp)}{o:Oper}{A B:Prop}(uK :∀(j:Nat) d,ds[j]?=some d->(ops[j]?).map (·.dst)=some d)(h:I2 ds o s A B):
  (Ff ops o s=some true/\A)∨(Ff ops o s=some false/\B):=by
 unfold I2 at h;unfold Ff;split at h
 ·rename_i hg;rw[hg];exact .inl ⟨rfl,h⟩
 ·rename_i j want hg;rw[hg];dsimp only;split at h
  ·rename_i t ht;unfold Z9 at h;split at h
   ·rename_i b hb;have:=uK j _ ht;have hj:(ops[j]?).bind (·.dst)=some t:=by
     cases ho:ops[j]? with
     | none=>rw[ho]at this;cases this
     | some oj=>rw[ho]at this;simpa using this
    rw[hj];dsimp only;rw[hb];by_cases wv:b=want
    ·exact .inl ⟨by simp[wv],h.1 wv⟩
    ·exact .inr ⟨by simp[wv],h.2 wv⟩
   ·rename_i hb;have:=uK j _ ht;have hj:(ops[j]?).bind (·.dst)=some t:=by
     cases ho:ops[j]? with
     | none=>rw[ho]at this;cases this
     | some oj=>rw[ho]at this;simpa using this
    rw[hj];dsimp only;rw[hb];exact .inr ⟨rfl,h⟩
   ·exact h.elim
  ·exact h.elim
theorem TZ {n g:Nat}{K:St->Prop}(sE :∀qW,HeadInv md ops n qW->∀i,i<n->qW.getD i true=false->∀t,n<=t->t ∉ Region.ready md ops qW):
  ∀(l:List Oper) (ds:List (Option Tmp)) (qW:Array Bool) (s:St),(∀(j:Nat),j<l.length->l[j]?=ops[ds.length+j]?)->(∀(j:Nat) d,ds[j]?=some d->(ops[j]?).map (·.dst)=some d)->ds.length+l.length=n->HeadInv md ops n qW->
  Region.lexHead md ops g l.length ds.length qW=true->D7 P ds l K s->
  Wo P md ops n (λlisted' s'=>Region.seqB md ops g n listed'=true/\K s') l.length qW s
 | [],ds,qW,s,_,_,hk,_,hB,h=>by
  have:ds.length=n:=by simpa using hk
  subst this;exact⟨by simpa [Region.lexHead] using hB,h⟩
 | o::l,ds,qW,s,hl,uK,hk,inv,hB,h=>by
  have h0:ops[ds.length]?=some o:=by simpa using (hl 0 (by simp)).symm
  simp only[mN,Region.lexHead,mE]at hB;obtain⟨⟨hr,hf⟩,hB'⟩:=hB;have hkn:ds.length<n:=by simp only[mN]at hk;omega
  have ry:ds.length∈Region.ready md ops qW:=by simpa using hr
  have uz :∀(j:Nat) d,(ds++[o.dst])[j]?=some d->(ops[j]?).map (·.dst)=some d:=λj d hj=>by
   rcases nG j ds.length with h1|h1|h1
   ·rw[lj h1]at hj;exact uK j d hj
   ·subst h1;rw[J0,lX]at hj;rw[h0];simp[hj]
   ·rw[mV (by simp;omega)]at hj;cases hj
  have rz:∀s',D7 P (ds++[o.dst]) l K s'->Wo P md ops n (λlisted' s'=>Region.seqB md ops g n listed'=true/\K s') l.length (qW.setIfInBounds ds.length true) s':=λs' hs'=>
   TZ sE l (ds++[o.dst]) _ s' (λj hj=>by
    have:=hl (j+1) (by simp;omega);simp only[mQ]at this;rw[this];congr 1;simp;omega) uz (by simp only[mN,mD,nD]at hk⊢;omega) (inv.set ry hkn) (by simpa using hB') hs'
  have tT:∀v,YA P ops o v s->D7 P (ds++[o.dst]) l K (s.put o.dst v)->Wo P md ops n (λlisted' s'=>Region.seqB md ops g n listed'=true/\K s') (l.length+1) qW s:=λv hy hK=>
   ZV h0 sE hkn (λlisted' s' hL=>seqB_ready hL.1) l.length qW s inv (pb h0 hf) ry hy (rz _ hK)
  simp only[D7]at h;rcases WJ uK h with ⟨hw,h1⟩|⟨hw,h1⟩
  ·obtain⟨v,hK,tS⟩:=Wv h1;exact tT v (.inl ⟨hw,tS⟩) hK
  ·exact tT .un (.inr ⟨hw,rfl⟩) h1
theorem Rel.drew (hr:Rel F os s a w):Rel F os s a w.drew/\Ext F os w F os w.drew k:=by
 have:=hr.YE (k:=k) (w':=w.drew) (b:=none) ⟨rfl,rfl,rfl,ll _,λ_ _ _=>rfl⟩ (by simp) (FK.refl os) (λi o ho=>.inl ⟨ho,by simp⟩) hr.inj (λo ho g hg=>.inr ⟨o,ho,hg⟩) (by simp);refine⟨?_,this.2.1⟩;have h1:=this.1;rw[hr.st]at h1;exact h1
theorem Tu (n:Nat):HeadInv .any ops n (Array.replicate ops.size false):=
 ⟨by simp,λj oj _ hl=>(by rw[getD_replicate_false]at hl;cases hl),λt _ ht=>getD_in (by simpa using ht) (getD_replicate_false _ _)⟩
theorem Ce {id:Nat}{Q:Exit->St->Prop}(hm:P.follows .mixedOrders=true)(hB:Region.lexHead .any ops 0 ops.size 0 (Array.replicate ops.size false)=true)(hd:(ops.toList.all λo=>DH s.n o.dst)=true)
  (h:D7 P [] ops.toList (λs'=>Q .normal s') s):AW P k (.region id ops true) Q s:=by
 intro F os a w hr;obtain⟨wy,he1⟩:=hr.drew (k:=k);refine pV hm ?_;have H:=TZ (md:=.any) (ops:=ops) (n:=ops.size) (g:=0) (K:=λs'=>Q .normal s') (P:=P) (λqW _ i _ _ t ht hr=>by
   obtain⟨_,o,ho,_⟩:=oR.1 hr;have:=(mO.1 ho).1;omega) ops.toList [] _ s (by simp) (by simp) (by simp) (Tu _) (by simpa using hB) h
 have:=Mb (k:=k) (g:=0) (N:=s.n) (Q':=KN k Q F os w) (F0:=F) (os0:=os) (w0:=w) (λo ho=>lh.1 hd o ho) (λqW s' F' os' a' w' _ hL ry he=>by
  refine⟨by simpa [Region.seqB] using hL.1,?_⟩;exact⟨s',F',os',hL.2,ry,he⟩) _ _ s F os a w.drew rfl H wy he1
 simpa using this
end Go.Abs
