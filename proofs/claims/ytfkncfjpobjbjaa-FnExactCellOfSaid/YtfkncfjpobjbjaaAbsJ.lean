import Derived.Test.YtfkncfjpobjbjaaAbsI
set_option linter.all false
namespace Go.Abs
open Go
variable {P : Program} {F : Nat -> Prop} {os : List Own} {s : St} {a : Act} {w : World} {k : Nat} {ops : Array Oper} {md : Region.Mode}
theorem OE {o:Oper}{v:AV}(hr:Rel F os s a w)(hd:Bo s.n o.dst=true)(h:EW P o s (·=v)){next:Act->World->Prop}{Q:Exit->Act->World->Prop}
  (hn :∀a' w',Step k s.n F os w (·=s.put o.dst v) a' w'->next a' w'):o.wp P a w next Q:=by
 have hq:DN P s o.op (·=v)->o.wp P a w next Q:=λh=>by
  obtain⟨x,u,rfl,h2,h3⟩:=JK hr h;unfold Oper.wp;rw[h2];exact hn _ _ ⟨_,F,os,by cases o.dst<;>rfl,rfl,hr.put hd h3,BN _ _ _ _⟩
 unfold EW at h;split at h
 ·obtain⟨v',h1,rfl⟩:=h;exact h1 s rfl (λ_ _=>rfl) hd k F os a w hr next Q hn
 ·exact hq h
def Cg (ops:Array Oper)(o:Oper)(s:St):Option Bool:=
 match o.guard with
 | none=>some true
 | some (j,want)=>match (ops[j]?).bind (·.dst) with
  | some t=>match s.env t with
   | .bool b=>some (b==want)
   | .un=>some false
   | _=>none
  | none=>none
theorem Ih (hr:Rel F os s a w)(Uj :∀o∈ops.toList,Bo s.n o.dst=true){o:Oper}{b:Bool}(h:Cg ops o s=some b):Region.wanted o (yielded ops a.tmps)=b:=by
 unfold Cg at h;unfold Region.wanted;split at h
 ·rename_i hg;rw[hg];simpa using h
 ·rename_i j want hg;rw[hg];dsimp only;split at h
  ·rename_i t ht;split at h
   ·rename_i b' hb;simp only[Rr]at h;have hj:(ops[j]?).map (·.dst)=some (some t):=by
     cases ho:ops[j]? with
     | none=>rw[ho]at ht;cases ht
     | some oj=>rw[ho]at ht;simpa using ht
    have UM:t<s.n:=by
     cases ho:ops[j]? with
     | none=>rw[ho]at ht;cases ht
     | some oj=>
      rw[ho]at ht;simp only[Rp]at ht;have:=Uj oj (by have:=Ro (l:=ops.toList) (i:=j) (by simpa using ho);exact this);rw[ht]at this;simpa [Bo] using this
    rw[Im hr hj UM hb,<- h];cases b'<;>cases want<;>rfl
   ·rename_i hb;simp only[Rr]at h;have hj:(ops[j]?).map (·.dst)=some (some t):=by
     cases ho:ops[j]? with
     | none=>rw[ho]at ht;cases ht
     | some oj=>rw[ho]at ht;simpa using ht
    have UM:t<s.n:=by
     cases ho:ops[j]? with
     | none=>rw[ho]at ht;cases ht
     | some oj=>
      rw[ho]at ht;simp only[Rp]at ht;have:=Uj oj (by have:=Ro (l:=ops.toList) (i:=j) (by simpa using ho);exact this);rw[ht]at this;simpa [Bo] using this
    rw[Il hr hj UM hb,<- h];rfl
   ·cases h
  ·cases h
def YA (P:Program)(ops:Array Oper)(o:Oper)(v:AV)(s:St):Prop:=
 (Cg ops o s=some true/\EW P o s (·=v))∨(Cg ops o s=some false/\v=.un)
def GI (P:Program)(ops:Array Oper)(i:Nat)(K:St->Prop)(s:St):Prop:=
 match ops[i]? with
 | none=>K s
 | some o=>∃v,YA P ops o v s/\K (s.put o.dst v)
theorem NW {i:Nat}{K K':St->Prop}(h :∀s,K s->K' s)(hh:GI P ops i K s):GI P ops i K' s:=by
 unfold GI at *;split
 ·exact h _ (by simpa [*] using hh)
 ·rename_i o ho;simp only[ho]at hh;obtain⟨v,h1,h2⟩:=hh;exact⟨v,h1,h _ h2⟩
theorem YA.keep {oi:Oper}{v:AV}{d:Option Tmp}{u:AV}(hy:YA P ops oi v s)(hd :∀t,d=some t->t ∉ oi.looksAt ops):YA P ops oi v (s.put d u):=by
 have Vs:∀x∈oi.op.operands,(s.put d u).ev x=s.ev x:=λx hx=>I3 λt ht cr=>hd t ht (by
  subst cr;exact List.mem_append_left _ (Su.2 ⟨.tmp t,by simpa using hx,rfl⟩))
 have hw:Cg ops oi (s.put d u)=Cg ops oi s:=by
  unfold Cg;cases hg:oi.guard with
  | none=>rfl
  | some p=>
   obtain⟨j,want⟩:=p;dsimp only;cases ht:(ops[j]?).bind (·.dst) with
   | none=>rfl
   | some t=>
    dsimp only;have:(s.put d u).env t=s.env t:=I3 (x:=.tmp t) λt' cu e=>hd t' cu (by
     cases e;exact List.mem_append_right _ (by simp[hg,ht]))
    rw[this]
 unfold YA at *;rw[hw];exact hy.imp (λh=>⟨h.1,Hy (Np _ _ _) Vs h.2⟩) id
theorem N8 {j:Nat}{oi oj:Oper}{v:AV}(hj:ops[j]?=some oj)(gv:oi.apart ops oj=true){K:St->Prop}(hy:YA P ops oi v s)(h:GI P ops j K (s.put oi.dst v)):
  GI P ops j (λs'=>YA P ops oi v s'/\K (s'.put oi.dst v)) s:=by
 obtain⟨h1,h2,h3⟩:=Oper.apart_spec gv;unfold GI at *;simp only[hj] at *;obtain⟨u,hu,hK⟩:=h;refine⟨u,?_,hy.keep h3,by rw[<- put_comm s v u h2];exact hK⟩;have Vs:∀x∈oj.op.operands,s.ev x=(s.put oi.dst v).ev x:=λx hx=>(I3 λt ht cr=>h1 t ht (by
  subst cr;exact List.mem_append_left _ (Su.2 ⟨.tmp t,by simpa using hx,rfl⟩))).symm
 have hw:Cg ops oj s=Cg ops oj (s.put oi.dst v):=by
  unfold Cg;cases hg:oj.guard with
  | none=>rfl
  | some p=>
   obtain⟨j,want⟩:=p;dsimp only;cases ht:(ops[j]?).bind (·.dst) with
   | none=>rfl
   | some t=>
    dsimp only;have:(s.put oi.dst v).env t=s.env t:=I3 (x:=.tmp t) λt' cu e=>h1 t' cu (by
     cases e;exact List.mem_append_right _ (by simp[hg,ht]))
    rw[this]
 unfold YA at *;rw[hw];exact hu.imp (λh=>⟨h.1,Hy (Np _ _ _).symm Vs h.2⟩) id
def JE (P:Program)(md:Region.Mode)(ops:Array Oper)(n:Nat)(L:Array Bool->St->Prop):Nat->Array Bool->St->Prop
 | 0,T7,s=>L T7 s
 | f+1,T7,s=>Region.ready md ops T7≠[]/\∀i∈Region.ready md ops T7,i<n/\GI P ops i (JE P md ops n L f (T7.setIfInBounds i true)) s
theorem KG {i:Nat}{K:St->Prop}(Uj :∀o∈ops.toList,Bo s.n o.dst=true)(hr:Rel F os s a w)(h:GI P ops i K s){next:Act->World->Prop}{Q:Exit->Act->World->Prop}
  (hn :∀a' w',Step k s.n F os w K a' w'->next a' w'):wpOp P ops Q i next a w:=by
 unfold GI at h;unfold wpOp;split
 ·rename_i ho;simp only[ho]at h;exact hn a w ⟨s,F,os,rfl,h,hr,BN _ _ _ _⟩
 ·rename_i o ho;simp only[ho]at h;obtain⟨v,hy,hK⟩:=h;have Yr:=Uj o (by have:=Ro (l:=ops.toList) (i:=i) (by simpa using ho);exact this);rcases hy with ⟨hw,hs⟩|⟨hw,rfl⟩
  ·rw[R1 (Ih hr Uj hw)];refine .inl (OE (k:=k) hr Yr hs ?_);rintro a' w' ⟨s',F',os',h1,rfl,h3,h4⟩;exact hn a' w' ⟨_,F',os',h1,hK,h3,h4⟩
  ·rw[R0 (by rw[Ih hr Uj hw];simp)];exact hn _ w ⟨_,F,os,by cases o.dst<;>rfl,hK,hr.un Yr,BN _ _ _ _⟩
theorem Ex {n g N:Nat}{L:Array Bool->St->Prop}{Q':Exit->Act->World->Prop}{F0:Nat->Prop}{os0:List Own}{w0:World}(Uj :∀o∈ops.toList,Bo N o.dst=true)
  (hL :∀T7 s F os a w,s.n=N->L T7 s->Rel F os s a w->Ext F0 os0 w0 F os w k->wpAny P md ops Q' g T7 a w) :
  ∀(f:Nat) (T7:Array Bool) (s:St) F os a w,s.n=N->JE P md ops n L f T7 s->Rel F os s a w->Ext F0 os0 w0 F os w k->wpAny P md ops Q' (f+g) T7 a w
 | 0,T7,s,F,os,a,w,hn,h,hr,he=>by rw[TO];exact hL _ _ _ _ _ _ hn h hr he
 | f+1,T7,s,F,os,a,w,hn,h,hr,he=>by
  rw[show f+1+g=(f+g)+1 by omega];refine⟨λh0=>absurd h0 h.1,λi hi=>?_⟩;refine KG (k:=k) (by rw[hn];exact Uj) hr (h.2 i hi).2 ?_;rintro a' w' ⟨s',F',os',h1,h2,h3,h4⟩;exact Ex Uj hL f _ s' F' os' a' w' (h1.trans hn) h2 h3 (he.trans h4)
theorem L8 {n i:Nat}{oi:Oper}{v:AV}{L:Array Bool->St->Prop}(hi:ops[i]?=some oi)
  (Wj :∀T7,HeadInv md ops n T7->∀i,i<n->T7.getD i true=false->∀t,n<=t->t ∉ Region.ready md ops T7) (Uy:i<n)
  (au :∀T7 s,L T7 s->∀j∈Region.ready md ops T7,n<=j) :
  ∀(f:Nat) (T7:Array Bool) (s:St),HeadInv md ops n T7->
   (∀j oj,ops[j]?=some oj->j≠i->T7.getD j true=false->(∀e∈oj.after,Region.binds md e=true->e.on≠i)->oi.apart ops oj=true)->
   i∈Region.ready md ops T7->YA P ops oi v s->
   JE P md ops n L f (T7.setIfInBounds i true) (s.put oi.dst v)->JE P md ops n L (f+1) T7 s:=by
 have XN:∀{K:St->Prop} {s:St},YA P ops oi v s->K (s.put oi.dst v)->GI P ops i K s:=λ{K s} hy h=>by
  unfold GI;simp only[hi];exact⟨v,hy,h⟩
 intro f
 induction f with
 | zero=>
  intro T7 s inv _ hr hy H;have YB:=(mem_ready.1 hr).1;refine⟨λh=>(by rw[h]at hr;cases hr),λj hj=>?_⟩;have an:j<n:=by
   rcases TH j n with h|h
   ·exact h
   ·exact absurd hj (Wj _ inv i Uy YB j h)
  refine⟨an,?_⟩;by_cases hji:j=i
  ·subst hji;exact XN hy H
  ·have:=au _ _ H j (ready_mono hj hji);omega
 | succ f ih=>
  intro T7 s inv ZH hr hy H;have YB:=(mem_ready.1 hr).1;refine⟨λh=>(by rw[h]at hr;cases hr),λj hj=>?_⟩;have an:j<n:=by
   rcases TH j n with h|h
   ·exact h
   ·exact absurd hj (Wj _ inv i Uy YB j h)
  refine⟨an,?_⟩;by_cases hji:j=i
  ·subst hji;exact XN hy H
  ·have h1:=(H.2 j (ready_mono hj hji)).2;obtain⟨av,oj,hoj,VK⟩:=mem_ready.1 hj;have cv:∀e∈oj.after,Region.binds md e=true->e.on≠i:=λe he hb heq=>by
    have h1:=VK e he hb;rw[heq,getD_both YB]at h1;cases h1
   have h2:=N8 hoj (ZH j oj hoj hji av cv) hy h1;have Zf :∀k ok,ops[k]?=some ok->k≠i->(T7.setIfInBounds j true).getD k true=false->
     (∀e∈ok.after,Region.binds md e=true->e.on≠i)->oi.apart ops ok=true:=λk ok hk gx YB Yg=>by
    refine ZH k ok hk gx ?_ Yg;by_cases hjk:j=k
    ·subst hjk;exact av
    ·rw[getD_set_ne true hjk]at YB;exact YB
   refine NW (λa' h3=>ih (T7.setIfInBounds j true) a' (inv.set hj an) Zf (ready_mono hr (Sc hji)) h3.1 ?_) h2;rw[Array.setIfInBounds_comm _ _ hji];exact h3.2
def Bj (P:Program):List (Option Tmp)->List Oper->(St->Prop)->St->Prop
 | _,[],K,s=>K s
 | ds,o::r,K,s=>Dc ds o s (EW P o s λv=>Bj P (ds++[o.dst]) r K (s.put o.dst v)) (Bj P (ds++[o.dst]) r K (s.put o.dst .un))
theorem NS {ds:List (Option Tmp)}{o:Oper}{A B:Prop}(Vk :∀(j:Nat) d,ds[j]?=some d->(ops[j]?).map (·.dst)=some d)(h:Dc ds o s A B):
  (Cg ops o s=some true/\A)∨(Cg ops o s=some false/\B):=by
 unfold Dc at h;unfold Cg;split at h
 ·rename_i hg;rw[hg];exact .inl ⟨rfl,h⟩
 ·rename_i j want hg;rw[hg];dsimp only;split at h
  ·rename_i t ht;unfold MZ at h;split at h
   ·rename_i b hb;have:=Vk j _ ht;have hj:(ops[j]?).bind (·.dst)=some t:=by
     cases ho:ops[j]? with
     | none=>rw[ho]at this;cases this
     | some oj=>rw[ho]at this;simpa using this
    rw[hj];dsimp only;rw[hb];by_cases X9:b=want
    ·exact .inl ⟨by simp[X9],h.1 X9⟩
    ·exact .inr ⟨by simp[X9],h.2 X9⟩
   ·rename_i hb;have:=Vk j _ ht;have hj:(ops[j]?).bind (·.dst)=some t:=by
     cases ho:ops[j]? with
     | none=>rw[ho]at this;cases this
     | some oj=>rw[ho]at this;simpa using this
    rw[hj];dsimp only;rw[hb];exact .inr ⟨rfl,h⟩
   ·exact h.elim
  ·exact h.elim
theorem H5 {n g:Nat}{K:St->Prop}(Wj :∀T7,HeadInv md ops n T7->∀i,i<n->T7.getD i true=false->∀t,n<=t->t ∉ Region.ready md ops T7):
  ∀(l:List Oper) (ds:List (Option Tmp)) (T7:Array Bool) (s:St),(∀(j:Nat),j<l.length->l[j]?=ops[ds.length+j]?)->(∀(j:Nat) d,ds[j]?=some d->(ops[j]?).map (·.dst)=some d)->ds.length+l.length=n->HeadInv md ops n T7->
  Region.lexHead md ops g l.length ds.length T7=true->Bj P ds l K s->
  JE P md ops n (λUr s'=>Region.seqB md ops g n Ur=true/\K s') l.length T7 s
 | [],ds,T7,s,_,_,hk,_,hB,h=>by
  have:ds.length=n:=by simpa using hk
  subst this;exact⟨by simpa [Region.lexHead] using hB,h⟩
 | o::l,ds,T7,s,hl,Vk,hk,inv,hB,h=>by
  have h0:ops[ds.length]?=some o:=by simpa using (hl 0 (by simp)).symm
  simp only[Sm,Region.lexHead,SP]at hB;obtain⟨⟨hr,hf⟩,hB'⟩:=hB;have fQ:ds.length<n:=by simp only[Sm]at hk;omega
  have VS:ds.length∈Region.ready md ops T7:=by simpa using hr
  have V5 :∀(j:Nat) d,(ds++[o.dst])[j]?=some d->(ops[j]?).map (·.dst)=some d:=λj d hj=>by
   rcases Sb j ds.length with h1|h1|h1
   ·rw[Rx h1]at hj;exact Vk j d hj
   ·subst h1;rw[Ds,Rr]at hj;rw[h0];simp[hj]
   ·rw[SI (by simp;omega)]at hj;cases hj
  have cw:∀s',Bj P (ds++[o.dst]) l K s'->JE P md ops n (λUr s'=>Region.seqB md ops g n Ur=true/\K s') l.length (T7.setIfInBounds ds.length true) s':=λs' V1=>
   H5 Wj l (ds++[o.dst]) _ s' (λj hj=>by
    have:=hl (j+1) (by simp;omega);simp only[SK]at this;rw[this];congr 1;simp;omega) V5 (by simp only[Sm,SV,S3]at hk⊢;omega) (inv.set VS fQ) (by simpa using hB') V1
  have YC:∀v,YA P ops o v s->Bj P (ds++[o.dst]) l K (s.put o.dst v)->JE P md ops n (λUr s'=>Region.seqB md ops g n Ur=true/\K s') (l.length+1) T7 s:=λv hy hK=>
   L8 h0 Wj fQ (λUr s' hL=>seqB_ready hL.1) l.length T7 s inv (Region.free_spec h0 hf) VS hy (cw _ hK)
  simp only[Bj]at h;rcases NS Vk h with ⟨hw,h1⟩|⟨hw,h1⟩
  ·obtain⟨v,hK,XN⟩:=NC h1;exact YC v (.inl ⟨hw,XN⟩) hK
  ·exact YC .un (.inr ⟨hw,rfl⟩) h1
theorem Rel.drew (hr:Rel F os s a w):Rel F os s a w.drew/\Ext F os w F os w.drew k:=by
 have:=hr.Jl (k:=k) (w':=w.drew) (b:=none) ⟨rfl,rfl,rfl,R3 _,λ_ _ _=>rfl⟩ (by simp) (B2 os) (λi o ho=>.inl ⟨ho,by simp⟩) hr.inj (λo ho g hg=>.inr ⟨o,ho,hg⟩) (by simp);refine⟨?_,this.2.1⟩;have h1:=this.1;rw[hr.st]at h1;exact h1
theorem Kv (n:Nat):HeadInv .any ops n (Array.replicate ops.size false):=
 ⟨by simp,λj oj _ hl=>(by rw[getD_replicate_false]at hl;cases hl),λt _ ht=>getD_in (by simpa using ht) (getD_replicate_false _ _)⟩
theorem D6 {id:Nat}{Q:Exit->St->Prop}(hm:P.follows .mixedOrders=true)(hB:Region.lexHead .any ops 0 ops.size 0 (Array.replicate ops.size false)=true)(hd:(ops.toList.all λo=>Bo s.n o.dst)=true)
  (h:Bj P [] ops.toList (λs'=>Q .normal s') s):AW P k (.region id ops true) Q s:=by
 intro F os a w hr;obtain⟨cx,he1⟩:=hr.drew (k:=k);refine wp_region_any hm ?_;have H:=H5 (md:=.any) (ops:=ops) (n:=ops.size) (g:=0) (K:=λs'=>Q .normal s') (P:=P) (λT7 _ i _ _ t ht hr=>by
   obtain⟨_,o,ho,_⟩:=mem_ready.1 hr;have:=(Sd.1 ho).1;omega) ops.toList [] _ s (by simp) (by simp) (by simp) (Kv _) (by simpa using hB) h
 have:=Ex (k:=k) (g:=0) (N:=s.n) (Q':=Ge k Q F os w) (F0:=F) (os0:=os) (w0:=w) (λo ho=>Ry.1 hd o ho) (λT7 s' F' os' a' w' _ hL VS he=>by
  refine⟨by simpa [Region.seqB] using hL.1,?_⟩;exact⟨s',F',os',hL.2,VS,he⟩) _ _ s F os a w.drew rfl H cx he1
 simpa using this
end Go.Abs
