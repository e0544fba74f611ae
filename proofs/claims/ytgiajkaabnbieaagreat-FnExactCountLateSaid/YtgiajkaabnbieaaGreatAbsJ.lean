import Derived.Test.YtgiajkaabnbieaaGreatAbsI
set_option linter.all false
namespace Go.Abs
open Go
variable {P : Program} {F : Nat -> Prop} {os : List Own} {s : St} {a : Act} {w : World} {k : Nat} {ops : Array Oper} {md : Region.Mode}
theorem dX {o:Oper}{v:AV}(hr:Rel F os s a w)(hd:DY s.n o.dst=true)(h:MY P o s (·=v)){next:Act->World->Prop}{Q:Exit->Act->World->Prop}
  (hn :∀a' w',Step k s.n F os w (·=s.put o.dst v) a' w'->next a' w'):o.wp P a w next Q:=by
 have hq:Jt P s o.op (·=v)->o.wp P a w next Q:=λh=>by
  obtain⟨x,u,rfl,h2,h3⟩:=SG hr h;unfold Oper.wp;rw[h2];exact hn _ _ ⟨_,F,os,by cases o.dst<;>rfl,rfl,hr.put hd h3,Ext.refl _ _ _ _⟩
 unfold MY at h;split at h
 ·obtain⟨v',h1,rfl⟩:=h;exact h1 s rfl (λ_ _=>rfl) hd k F os a w hr next Q hn
 ·exact hq h
def IM (ops:Array Oper)(o:Oper)(s:St):Option Bool:=
 match o.guard with
 | none=>some true
 | some (j,want)=>match (ops[j]?).bind (·.dst) with
  | some t=>match s.env t with
   | .bool b=>some (b==want)
   | .un=>some false
   | _=>none
  | none=>none
theorem Uc (hr:Rel F os s a w)(ry :∀o∈ops.toList,DY s.n o.dst=true){o:Oper}{b:Bool}(h:IM ops o s=some b):Region.wanted o (yielded ops a.tmps)=b:=by
 unfold IM at h;unfold Region.wanted;split at h
 ·rename_i hg;rw[hg];simpa using h
 ·rename_i j want hg;rw[hg];dsimp only;split at h
  ·rename_i t ht;split at h
   ·rename_i b' hb;simp only[mE]at h;have hj:(ops[j]?).map (·.dst)=some (some t):=by
     cases ho:ops[j]? with
     | none=>rw[ho]at ht;cases ht
     | some oj=>rw[ho]at ht;simpa using ht
    have rJ:t<s.n:=by
     cases ho:ops[j]? with
     | none=>rw[ho]at ht;cases ht
     | some oj=>
      rw[ho]at ht;simp only[mA]at ht;have:=ry oj (by have:=mB (l:=ops.toList) (i:=j) (by simpa using ho);exact this);rw[ht]at this;simpa [DY] using this
    rw[UW hr hj rJ hb,<- h];cases b'<;>cases want<;>rfl
   ·rename_i hb;simp only[mE]at h;have hj:(ops[j]?).map (·.dst)=some (some t):=by
     cases ho:ops[j]? with
     | none=>rw[ho]at ht;cases ht
     | some oj=>rw[ho]at ht;simpa using ht
    have rJ:t<s.n:=by
     cases ho:ops[j]? with
     | none=>rw[ho]at ht;cases ht
     | some oj=>
      rw[ho]at ht;simp only[mA]at ht;have:=ry oj (by have:=mB (l:=ops.toList) (i:=j) (by simpa using ho);exact this);rw[ht]at this;simpa [DY] using this
    rw[UI hr hj rJ hb,<- h];rfl
   ·cases h
  ·cases h
def YA (P:Program)(ops:Array Oper)(o:Oper)(v:AV)(s:St):Prop:=
 (IM ops o s=some true/\MY P o s (·=v))∨(IM ops o s=some false/\v=.un)
def QC (P:Program)(ops:Array Oper)(i:Nat)(K:St->Prop)(s:St):Prop:=
 match ops[i]? with
 | none=>K s
 | some o=>∃v,YA P ops o v s/\K (s.put o.dst v)
theorem bV {i:Nat}{K K':St->Prop}(h :∀s,K s->K' s)(hh:QC P ops i K s):QC P ops i K' s:=by
 unfold QC at *;split
 ·exact h _ (by simpa [*] using hh)
 ·rename_i o ho;simp only[ho]at hh;obtain⟨v,h1,h2⟩:=hh;exact⟨v,h1,h _ h2⟩
theorem YA.keep {oi:Oper}{v:AV}{d:Option Tmp}{u:AV}(hy:YA P ops oi v s)(hd :∀t,d=some t->t ∉ oi.looksAt ops):YA P ops oi v (s.put d u):=by
 have hev:∀x∈oi.op.operands,(s.put d u).ev x=s.ev x:=λx hx=>VI λt ht hxt=>hd t ht (by
  subst hxt;exact List.mem_append_left _ (nr.2 ⟨.tmp t,by simpa using hx,rfl⟩))
 have hw:IM ops oi (s.put d u)=IM ops oi s:=by
  unfold IM;cases hg:oi.guard with
  | none=>rfl
  | some p=>
   obtain⟨j,want⟩:=p;dsimp only;cases ht:(ops[j]?).bind (·.dst) with
   | none=>rfl
   | some t=>
    dsimp only;have:(s.put d u).env t=s.env t:=VI (x:=.tmp t) λt' ht' e=>hd t' ht' (by
     cases e;exact List.mem_append_right _ (by simp[hg,ht]))
    rw[this]
 unfold YA at *;rw[hw];exact hy.imp (λh=>⟨h.1,Sb (cT _ _ _) hev h.2⟩) id
theorem dt {j:Nat}{oi oj:Oper}{v:AV}(hj:ops[j]?=some oj)(hap:oi.apart ops oj=true){K:St->Prop}(hy:YA P ops oi v s)(h:QC P ops j K (s.put oi.dst v)):
  QC P ops j (λs'=>YA P ops oi v s'/\K (s'.put oi.dst v)) s:=by
 obtain⟨h1,h2,h3⟩:=Oper.apart_spec hap;unfold QC at *;simp only[hj] at *;obtain⟨u,hu,hK⟩:=h;refine⟨u,?_,hy.keep h3,by rw[<- put_comm s v u h2];exact hK⟩;have hev:∀x∈oj.op.operands,s.ev x=(s.put oi.dst v).ev x:=λx hx=>(VI λt ht hxt=>h1 t ht (by
  subst hxt;exact List.mem_append_left _ (nr.2 ⟨.tmp t,by simpa using hx,rfl⟩))).symm
 have hw:IM ops oj s=IM ops oj (s.put oi.dst v):=by
  unfold IM;cases hg:oj.guard with
  | none=>rfl
  | some p=>
   obtain⟨j,want⟩:=p;dsimp only;cases ht:(ops[j]?).bind (·.dst) with
   | none=>rfl
   | some t=>
    dsimp only;have:(s.put oi.dst v).env t=s.env t:=VI (x:=.tmp t) λt' ht' e=>h1 t' ht' (by
     cases e;exact List.mem_append_right _ (by simp[hg,ht]))
    rw[this]
 unfold YA at *;rw[hw];exact hu.imp (λh=>⟨h.1,Sb (cT _ _ _).symm hev h.2⟩) id
def WU (P:Program)(md:Region.Mode)(ops:Array Oper)(n:Nat)(L:Array Bool->St->Prop):Nat->Array Bool->St->Prop
 | 0,qi,s=>L qi s
 | f+1,qi,s=>Region.ready md ops qi≠[]/\∀i∈Region.ready md ops qi,i<n/\QC P ops i (WU P md ops n L f (qi.setIfInBounds i true)) s
theorem W4 {i:Nat}{K:St->Prop}(ry :∀o∈ops.toList,DY s.n o.dst=true)(hr:Rel F os s a w)(h:QC P ops i K s){next:Act->World->Prop}{Q:Exit->Act->World->Prop}
  (hn :∀a' w',Step k s.n F os w K a' w'->next a' w'):wpOp P ops Q i next a w:=by
 unfold QC at h;unfold wpOp;split
 ·rename_i ho;simp only[ho]at h;exact hn a w ⟨s,F,os,rfl,h,hr,Ext.refl _ _ _ _⟩
 ·rename_i o ho;simp only[ho]at h;obtain⟨v,hy,hK⟩:=h;have wW:=ry o (by have:=mB (l:=ops.toList) (i:=i) (by simpa using ho);exact this);rcases hy with ⟨hw,hs⟩|⟨hw,rfl⟩
  ·rw[mI (Uc hr ry hw)];refine .inl (dX (k:=k) hr wW hs ?_);rintro a' w' ⟨s',F',os',h1,rfl,h3,h4⟩;exact hn a' w' ⟨_,F',os',h1,hK,h3,h4⟩
  ·rw[mJ (by rw[Uc hr ry hw];simp)];exact hn _ w ⟨_,F,os,by cases o.dst<;>rfl,hK,hr.un wW,Ext.refl _ _ _ _⟩
theorem Nb {n g N:Nat}{L:Array Bool->St->Prop}{Q':Exit->Act->World->Prop}{F0:Nat->Prop}{os0:List Own}{w0:World}(ry :∀o∈ops.toList,DY N o.dst=true)
  (hL :∀qi s F os a w,s.n=N->L qi s->Rel F os s a w->Ext F0 os0 w0 F os w k->wpAny P md ops Q' g qi a w) :
  ∀(f:Nat) (qi:Array Bool) (s:St) F os a w,s.n=N->WU P md ops n L f qi s->Rel F os s a w->Ext F0 os0 w0 F os w k->wpAny P md ops Q' (f+g) qi a w
 | 0,qi,s,F,os,a,w,hn,h,hr,he=>by rw[nS];exact hL _ _ _ _ _ _ hn h hr he
 | f+1,qi,s,F,os,a,w,hn,h,hr,he=>by
  rw[show f+1+g=(f+g)+1 by omega];refine⟨λh0=>absurd h0 h.1,λi hi=>?_⟩;refine W4 (k:=k) (by rw[hn];exact ry) hr (h.2 i hi).2 ?_;rintro a' w' ⟨s',F',os',h1,h2,h3,h4⟩;exact Nb ry hL f _ s' F' os' a' w' (h1.trans hn) h2 h3 (he.trans h4)
theorem ZG {n i:Nat}{oi:Oper}{v:AV}{L:Array Bool->St->Prop}(hi:ops[i]?=some oi)
  (vD :∀qi,HeadInv md ops n qi->∀i,i<n->qi.getD i true=false->∀t,n<=t->t ∉ Region.ready md ops qi) (su:i<n)
  (hdone :∀qi s,L qi s->∀j∈Region.ready md ops qi,n<=j) :
  ∀(f:Nat) (qi:Array Bool) (s:St),HeadInv md ops n qi->
   (∀j oj,ops[j]?=some oj->j≠i->qi.getD j true=false->(∀e∈oj.after,Region.binds md e=true->e.on≠i)->oi.apart ops oj=true)->
   i∈Region.ready md ops qi->YA P ops oi v s->
   WU P md ops n L f (qi.setIfInBounds i true) (s.put oi.dst v)->WU P md ops n L (f+1) qi s:=by
 have vk:∀{K:St->Prop} {s:St},YA P ops oi v s->K (s.put oi.dst v)->QC P ops i K s:=λ{K s} hy h=>by
  unfold QC;simp only[hi];exact⟨v,hy,h⟩
 intro f
 induction f with
 | zero=>
  intro qi s inv _ hr hy H;have uw:=(pq.1 hr).1;refine⟨λh=>(by rw[h]at hr;cases hr),λj hj=>?_⟩;have hjn:j<n:=by
   rcases oO j n with h|h
   ·exact h
   ·exact absurd hj (vD _ inv i su uw j h)
  refine⟨hjn,?_⟩;by_cases uJ:j=i
  ·subst uJ;exact vk hy H
  ·have:=hdone _ _ H j (pd hj uJ);omega
 | succ f ih=>
  intro qi s inv vE hr hy H;have uw:=(pq.1 hr).1;refine⟨λh=>(by rw[h]at hr;cases hr),λj hj=>?_⟩;have hjn:j<n:=by
   rcases oO j n with h|h
   ·exact h
   ·exact absurd hj (vD _ inv i su uw j h)
  refine⟨hjn,?_⟩;by_cases uJ:j=i
  ·subst uJ;exact vk hy H
  ·have h1:=(H.2 j (pd hj uJ)).2;obtain⟨vw,oj,hoj,sR⟩:=pq.1 hj;have xc:∀e∈oj.after,Region.binds md e=true->e.on≠i:=λe he hb heq=>by
    have h1:=sR e he hb;rw[heq,getD_both uw]at h1;cases h1
   have h2:=dt hoj (vE j oj hoj uJ vw xc) hy h1;have zQ :∀k ok,ops[k]?=some ok->k≠i->(qi.setIfInBounds j true).getD k true=false->
     (∀e∈ok.after,Region.binds md e=true->e.on≠i)->oi.apart ops ok=true:=λk ok hk hki uw xL=>by
    refine vE k ok hk hki ?_ xL;by_cases hjk:j=k
    ·subst hjk;exact vw
    ·rw[getD_set_ne true hjk]at uw;exact uw
   refine bV (λa' h3=>ih (qi.setIfInBounds j true) a' (inv.set hj hjn) zQ (pd hr (nm uJ)) h3.1 ?_) h2;rw[Array.setIfInBounds_comm _ _ uJ];exact h3.2
def Di (P:Program):List (Option Tmp)->List Oper->(St->Prop)->St->Prop
 | _,[],K,s=>K s
 | ds,o::r,K,s=>J9 ds o s (MY P o s λv=>Di P (ds++[o.dst]) r K (s.put o.dst v)) (Di P (ds++[o.dst]) r K (s.put o.dst .un))
theorem bC {ds:List (Option Tmp)}{o:Oper}{A B:Prop}(tr :∀(j:Nat) d,ds[j]?=some d->(ops[j]?).map (·.dst)=some d)(h:J9 ds o s A B):
  (IM ops o s=some true/\A)∨(IM ops o s=some false/\B):=by
 unfold J9 at h;unfold IM;split at h
 ·rename_i hg;rw[hg];exact .inl ⟨rfl,h⟩
 ·rename_i j want hg;rw[hg];dsimp only;split at h
  ·rename_i t ht;unfold Zq at h;split at h
   ·rename_i b hb;have:=tr j _ ht;have hj:(ops[j]?).bind (·.dst)=some t:=by
     cases ho:ops[j]? with
     | none=>rw[ho]at this;cases this
     | some oj=>rw[ho]at this;simpa using this
    rw[hj];dsimp only;rw[hb];by_cases vj:b=want
    ·exact .inl ⟨by simp[vj],h.1 vj⟩
    ·exact .inr ⟨by simp[vj],h.2 vj⟩
   ·rename_i hb;have:=tr j _ ht;have hj:(ops[j]?).bind (·.dst)=some t:=by
     cases ho:ops[j]? with
     | none=>rw[ho]at this;cases this
     | some oj=>rw[ho]at this;simpa using this
    rw[hj];dsimp only;rw[hb];exact .inr ⟨rfl,h⟩
   ·exact h.elim
  ·exact h.elim
theorem Tq {n g:Nat}{K:St->Prop}(vD :∀qi,HeadInv md ops n qi->∀i,i<n->qi.getD i true=false->∀t,n<=t->t ∉ Region.ready md ops qi):
  ∀(l:List Oper) (ds:List (Option Tmp)) (qi:Array Bool) (s:St),(∀(j:Nat),j<l.length->l[j]?=ops[ds.length+j]?)->(∀(j:Nat) d,ds[j]?=some d->(ops[j]?).map (·.dst)=some d)->ds.length+l.length=n->HeadInv md ops n qi->
  Region.lexHead md ops g l.length ds.length qi=true->Di P ds l K s->
  WU P md ops n (λlisted' s'=>Region.seqB md ops g n listed'=true/\K s') l.length qi s
 | [],ds,qi,s,_,_,hk,_,hB,h=>by
  have:ds.length=n:=by simpa using hk
  subst this;exact⟨by simpa [Region.lexHead] using hB,h⟩
 | o::l,ds,qi,s,hl,tr,hk,inv,hB,h=>by
  have h0:ops[ds.length]?=some o:=by simpa using (hl 0 (by simp)).symm
  simp only[mf,Region.lexHead,mQ]at hB;obtain⟨⟨hr,hf⟩,hB'⟩:=hB;have hkn:ds.length<n:=by simp only[mf]at hk;omega
  have sx:ds.length∈Region.ready md ops qi:=by simpa using hr
  have tx :∀(j:Nat) d,(ds++[o.dst])[j]?=some d->(ops[j]?).map (·.dst)=some d:=λj d hj=>by
   rcases ng j ds.length with h1|h1|h1
   ·rw[mM h1]at hj;exact tr j d hj
   ·subst h1;rw[Je,mE]at hj;rw[h0];simp[hj]
   ·rw[nH (by simp;omega)]at hj;cases hj
  have rY:∀s',Di P (ds++[o.dst]) l K s'->WU P md ops n (λlisted' s'=>Region.seqB md ops g n listed'=true/\K s') l.length (qi.setIfInBounds ds.length true) s':=λs' uj=>
   Tq vD l (ds++[o.dst]) _ s' (λj hj=>by
    have:=hl (j+1) (by simp;omega);simp only[mz]at this;rw[this];congr 1;simp;omega) tx (by simp only[mf,ml,nN]at hk⊢;omega) (inv.set sx hkn) (by simpa using hB') uj
  have wX:∀v,YA P ops o v s->Di P (ds++[o.dst]) l K (s.put o.dst v)->WU P md ops n (λlisted' s'=>Region.seqB md ops g n listed'=true/\K s') (l.length+1) qi s:=λv hy hK=>
   ZG h0 vD hkn (λlisted' s' hL=>seqB_ready hL.1) l.length qi s inv (Region.free_spec h0 hf) sx hy (rY _ hK)
  simp only[Di]at h;rcases bC tr h with ⟨hw,h1⟩|⟨hw,h1⟩
  ·obtain⟨v,hK,vk⟩:=bl h1;exact wX v (.inl ⟨hw,vk⟩) hK
  ·exact wX .un (.inr ⟨hw,rfl⟩) h1
theorem Rel.drew (hr:Rel F os s a w):Rel F os s a w.drew/\Ext F os w F os w.drew k:=by
 have:=hr.Xl (k:=k) (w':=w.drew) (b:=none) ⟨rfl,rfl,rfl,mS _,λ_ _ _=>rfl⟩ (by simp) (Ex.refl os) (λi o ho=>.inl ⟨ho,by simp⟩) hr.inj (λo ho g hg=>.inr ⟨o,ho,hg⟩) (by simp);refine⟨?_,this.2.1⟩;have h1:=this.1;rw[hr.st]at h1;exact h1
theorem Xb (n:Nat):HeadInv .any ops n (Array.replicate ops.size false):=
 ⟨by simp,λj oj _ hl=>(by rw[getD_replicate_false]at hl;cases hl),λt _ ht=>getD_in (by simpa using ht) (getD_replicate_false _ _)⟩
theorem CT {id:Nat}{Q:Exit->St->Prop}(hm:P.follows .mixedOrders=true)(hB:Region.lexHead .any ops 0 ops.size 0 (Array.replicate ops.size false)=true)(hd:(ops.toList.all λo=>DY s.n o.dst)=true)
  (h:Di P [] ops.toList (λs'=>Q .normal s') s):AW P k (.region id ops true) Q s:=by
 intro F os a w hr;obtain⟨zR,he1⟩:=hr.drew (k:=k);refine wp_region_any hm ?_;have H:=Tq (md:=.any) (ops:=ops) (n:=ops.size) (g:=0) (K:=λs'=>Q .normal s') (P:=P) (λqi _ i _ _ t ht hr=>by
   obtain⟨_,o,ho,_⟩:=pq.1 hr;have:=(mq.1 ho).1;omega) ops.toList [] _ s (by simp) (by simp) (by simp) (Xb _) (by simpa using hB) h
 have:=Nb (k:=k) (g:=0) (N:=s.n) (Q':=PT k Q F os w) (F0:=F) (os0:=os) (w0:=w) (λo ho=>mL.1 hd o ho) (λqi s' F' os' a' w' _ hL sx he=>by
  refine⟨by simpa [Region.seqB] using hL.1,?_⟩;exact⟨s',F',os',hL.2,sx,he⟩) _ _ s F os a w.drew rfl H zR he1
 simpa using this
end Go.Abs
