import Derived.Test.YtfkncfjpobjbjaaAbsI
set_option linter.all false
namespace Go.Abs
open Go
variable {P : Program} {F : Nat -> Prop} {os : List Own} {s : St} {a : Act} {w : World} {k : Nat} {ops : Array Oper} {md : Region.Mode}
theorem N4 {o:Oper}{v:AV}(hr:Rel F os s a w)(hd:Bn s.n o.dst=true)(h:ER P o s (·=v)){next:Act->World->Prop}{Q:Exit->Act->World->Prop}
  (hn :∀a' w',Step k s.n F os w (·=s.put o.dst v) a' w'->next a' w'):o.wp P a w next Q:=by
 have hq:DM P s o.op (·=v)->o.wp P a w next Q:=λh=>by
  obtain⟨x,u,rfl,h2,h3⟩:=JN hr h;unfold Oper.wp;rw[h2];exact hn _ _ ⟨_,F,os,by cases o.dst<;>rfl,rfl,hr.put hd h3,BM _ _ _ _⟩
 unfold ER at h;split at h
 ·obtain⟨v',h1,rfl⟩:=h;exact h1 s rfl (λ_ _=>rfl) hd k F os a w hr next Q hn
 ·exact hq h
def Ch (ops:Array Oper)(o:Oper)(s:St):Option Bool:=
 match o.guard with
 | none=>some true
 | some (j,want)=>match (ops[j]?).bind (·.dst) with
  | some t=>match s.env t with
   | .bool b=>some (b==want)
   | .un=>some false
   | _=>none
  | none=>none
theorem Ih (hr:Rel F os s a w)(Uf :∀o∈ops.toList,Bn s.n o.dst=true){o:Oper}{b:Bool}(h:Ch ops o s=some b):Region.wanted o (yielded ops a.tmps)=b:=by
 unfold Ch at h;unfold Region.wanted;split at h
 ·rename_i hg;rw[hg];simpa using h
 ·rename_i j want hg;rw[hg];dsimp only;split at h
  ·rename_i t ht;split at h
   ·rename_i b' hb;simp only[Rn]at h;have hj:(ops[j]?).map (·.dst)=some (some t):=by
     cases ho:ops[j]? with
     | none=>rw[ho]at ht;cases ht
     | some oj=>rw[ho]at ht;simpa using ht
    have T9:t<s.n:=by
     cases ho:ops[j]? with
     | none=>rw[ho]at ht;cases ht
     | some oj=>
      rw[ho]at ht;simp only[Rl]at ht;have:=Uf oj (by have:=Rk (l:=ops.toList) (i:=j) (by simpa using ho);exact this);rw[ht]at this;simpa [Bn] using this
    rw[Ig hr hj T9 hb,<- h];cases b'<;>cases want<;>rfl
   ·rename_i hb;simp only[Rn]at h;have hj:(ops[j]?).map (·.dst)=some (some t):=by
     cases ho:ops[j]? with
     | none=>rw[ho]at ht;cases ht
     | some oj=>rw[ho]at ht;simpa using ht
    have T9:t<s.n:=by
     cases ho:ops[j]? with
     | none=>rw[ho]at ht;cases ht
     | some oj=>
      rw[ho]at ht;simp only[Rl]at ht;have:=Uf oj (by have:=Rk (l:=ops.toList) (i:=j) (by simpa using ho);exact this);rw[ht]at this;simpa [Bn] using this
    rw[IW hr hj T9 hb,<- h];rfl
   ·cases h
  ·cases h
def YA (P:Program)(ops:Array Oper)(o:Oper)(v:AV)(s:St):Prop:=
 (Ch ops o s=some true/\ER P o s (·=v))∨(Ch ops o s=some false/\v=.un)
def GJ (P:Program)(ops:Array Oper)(i:Nat)(K:St->Prop)(s:St):Prop:=
 match ops[i]? with
 | none=>K s
 | some o=>∃v,YA P ops o v s/\K (s.put o.dst v)
theorem NV {i:Nat}{K K':St->Prop}(h :∀s,K s->K' s)(hh:GJ P ops i K s):GJ P ops i K' s:=by
 unfold GJ at *;split
 ·exact h _ (by simpa [*] using hh)
 ·rename_i o ho;simp only[ho]at hh;obtain⟨v,h1,h2⟩:=hh;exact⟨v,h1,h _ h2⟩
theorem YA.keep {oi:Oper}{v:AV}{d:Option Tmp}{u:AV}(hy:YA P ops oi v s)(hd :∀t,d=some t->t ∉ oi.looksAt ops):YA P ops oi v (s.put d u):=by
 have Vm:∀x∈oi.op.operands,(s.put d u).ev x=s.ev x:=λx hx=>Iw λt ht cf=>hd t ht (by
  subst cf;exact List.mem_append_left _ (So.2 ⟨.tmp t,by simpa using hx,rfl⟩))
 have hw:Ch ops oi (s.put d u)=Ch ops oi s:=by
  unfold Ch;cases hg:oi.guard with
  | none=>rfl
  | some p=>
   obtain⟨j,want⟩:=p;dsimp only;cases ht:(ops[j]?).bind (·.dst) with
   | none=>rfl
   | some t=>
    dsimp only;have:(s.put d u).env t=s.env t:=Iw (x:=.tmp t) λt' cg e=>hd t' cg (by
     cases e;exact List.mem_append_right _ (by simp[hg,ht]))
    rw[this]
 unfold YA at *;rw[hw];exact hy.imp (λh=>⟨h.1,Hk (Nk _ _ _) Vm h.2⟩) id
theorem OD {j:Nat}{oi oj:Oper}{v:AV}(hj:ops[j]?=some oj)(gh:oi.apart ops oj=true){K:St->Prop}(hy:YA P ops oi v s)(h:GJ P ops j K (s.put oi.dst v)):
  GJ P ops j (λs'=>YA P ops oi v s'/\K (s'.put oi.dst v)) s:=by
 obtain⟨h1,h2,h3⟩:=Oper.apart_spec gh;unfold GJ at *;simp only[hj] at *;obtain⟨u,hu,hK⟩:=h;refine⟨u,?_,hy.keep h3,by rw[<- put_comm s v u h2];exact hK⟩;have Vm:∀x∈oj.op.operands,s.ev x=(s.put oi.dst v).ev x:=λx hx=>(Iw λt ht cf=>h1 t ht (by
  subst cf;exact List.mem_append_left _ (So.2 ⟨.tmp t,by simpa using hx,rfl⟩))).symm
 have hw:Ch ops oj s=Ch ops oj (s.put oi.dst v):=by
  unfold Ch;cases hg:oj.guard with
  | none=>rfl
  | some p=>
   obtain⟨j,want⟩:=p;dsimp only;cases ht:(ops[j]?).bind (·.dst) with
   | none=>rfl
   | some t=>
    dsimp only;have:(s.put oi.dst v).env t=s.env t:=Iw (x:=.tmp t) λt' cg e=>h1 t' cg (by
     cases e;exact List.mem_append_right _ (by simp[hg,ht]))
    rw[this]
 unfold YA at *;rw[hw];exact hu.imp (λh=>⟨h.1,Hk (Nk _ _ _).symm Vm h.2⟩) id
def JF (P:Program)(md:Region.Mode)(ops:Array Oper)(n:Nat)(L:Array Bool->St->Prop):Nat->Array Bool->St->Prop
 | 0,T3,s=>L T3 s
 | f+1,T3,s=>Region.ready md ops T3≠[]/\∀i∈Region.ready md ops T3,i<n/\GJ P ops i (JF P md ops n L f (T3.setIfInBounds i true)) s
theorem J4 {i:Nat}{K:St->Prop}(Uf :∀o∈ops.toList,Bn s.n o.dst=true)(hr:Rel F os s a w)(h:GJ P ops i K s){next:Act->World->Prop}{Q:Exit->Act->World->Prop}
  (hn :∀a' w',Step k s.n F os w K a' w'->next a' w'):wpOp P ops Q i next a w:=by
 unfold GJ at h;unfold wpOp;split
 ·rename_i ho;simp only[ho]at h;exact hn a w ⟨s,F,os,rfl,h,hr,BM _ _ _ _⟩
 ·rename_i o ho;simp only[ho]at h;obtain⟨v,hy,hK⟩:=h;have Ym:=Uf o (by have:=Rk (l:=ops.toList) (i:=i) (by simpa using ho);exact this);rcases hy with ⟨hw,hs⟩|⟨hw,rfl⟩
  ·rw[Ry (Ih hr Uf hw)];refine .inl (N4 (k:=k) hr Ym hs ?_);rintro a' w' ⟨s',F',os',h1,rfl,h3,h4⟩;exact hn a' w' ⟨_,F',os',h1,hK,h3,h4⟩
  ·rw[Rx (by rw[Ih hr Uf hw];simp)];exact hn _ w ⟨_,F,os,by cases o.dst<;>rfl,hK,hr.un Ym,BM _ _ _ _⟩
theorem Eo {n g N:Nat}{L:Array Bool->St->Prop}{Q':Exit->Act->World->Prop}{F0:Nat->Prop}{os0:List Own}{w0:World}(Uf :∀o∈ops.toList,Bn N o.dst=true)
  (hL :∀T3 s F os a w,s.n=N->L T3 s->Rel F os s a w->Ext F0 os0 w0 F os w k->wpAny P md ops Q' g T3 a w) :
  ∀(f:Nat) (T3:Array Bool) (s:St) F os a w,s.n=N->JF P md ops n L f T3 s->Rel F os s a w->Ext F0 os0 w0 F os w k->wpAny P md ops Q' (f+g) T3 a w
 | 0,T3,s,F,os,a,w,hn,h,hr,he=>by rw[TK];exact hL _ _ _ _ _ _ hn h hr he
 | f+1,T3,s,F,os,a,w,hn,h,hr,he=>by
  rw[show f+1+g=(f+g)+1 by omega];refine⟨λh0=>absurd h0 h.1,λi hi=>?_⟩;refine J4 (k:=k) (by rw[hn];exact Uf) hr (h.2 i hi).2 ?_;rintro a' w' ⟨s',F',os',h1,h2,h3,h4⟩;exact Eo Uf hL f _ s' F' os' a' w' (h1.trans hn) h2 h3 (he.trans h4)
theorem L3 {n i:Nat}{oi:Oper}{v:AV}{L:Array Bool->St->Prop}(hi:ops[i]?=some oi)
  (WZ :∀T3,HeadInv md ops n T3->∀i,i<n->T3.getD i true=false->∀t,n<=t->t ∉ Region.ready md ops T3) (Ut:i<n)
  (al :∀T3 s,L T3 s->∀j∈Region.ready md ops T3,n<=j) :
  ∀(f:Nat) (T3:Array Bool) (s:St),HeadInv md ops n T3->
   (∀j oj,ops[j]?=some oj->j≠i->T3.getD j true=false->(∀e∈oj.after,Region.binds md e=true->e.on≠i)->oi.apart ops oj=true)->
   i∈Region.ready md ops T3->YA P ops oi v s->
   JF P md ops n L f (T3.setIfInBounds i true) (s.put oi.dst v)->JF P md ops n L (f+1) T3 s:=by
 have XI:∀{K:St->Prop} {s:St},YA P ops oi v s->K (s.put oi.dst v)->GJ P ops i K s:=λ{K s} hy h=>by
  unfold GJ;simp only[hi];exact⟨v,hy,h⟩
 intro f
 induction f with
 | zero=>
  intro T3 s inv _ hr hy H;have X4:=(mem_ready.1 hr).1;refine⟨λh=>(by rw[h]at hr;cases hr),λj hj=>?_⟩;have af:j<n:=by
   rcases TD j n with h|h
   ·exact h
   ·exact absurd hj (WZ _ inv i Ut X4 j h)
  refine⟨af,?_⟩;by_cases hji:j=i
  ·subst hji;exact XI hy H
  ·have:=al _ _ H j (ready_mono hj hji);omega
 | succ f ih=>
  intro T3 s inv ZD hr hy H;have X4:=(mem_ready.1 hr).1;refine⟨λh=>(by rw[h]at hr;cases hr),λj hj=>?_⟩;have af:j<n:=by
   rcases TD j n with h|h
   ·exact h
   ·exact absurd hj (WZ _ inv i Ut X4 j h)
  refine⟨af,?_⟩;by_cases hji:j=i
  ·subst hji;exact XI hy H
  ·have h1:=(H.2 j (ready_mono hj hji)).2;obtain⟨an,oj,hoj,VD⟩:=mem_ready.1 hj;have cj:∀e∈oj.after,Region.binds md e=true->e.on≠i:=λe he hb heq=>by
    have h1:=VD e he hb;rw[heq,getD_both X4]at h1;cases h1
   have h2:=OD hoj (ZD j oj hoj hji an cj) hy h1;have Zc :∀k ok,ops[k]?=some ok->k≠i->(T3.setIfInBounds j true).getD k true=false->
     (∀e∈ok.after,Region.binds md e=true->e.on≠i)->oi.apart ops ok=true:=λk ok hk gi X4 ZE=>by
    refine ZD k ok hk gi ?_ ZE;by_cases hjk:j=k
    ·subst hjk;exact an
    ·rw[getD_set_ne true hjk]at X4;exact X4
   refine NV (λa' h3=>ih (T3.setIfInBounds j true) a' (inv.set hj af) Zc (ready_mono hr (SY hji)) h3.1 ?_) h2;rw[Array.setIfInBounds_comm _ _ hji];exact h3.2
def Bh (P:Program):List (Option Tmp)->List Oper->(St->Prop)->St->Prop
 | _,[],K,s=>K s
 | ds,o::r,K,s=>Da ds o s (ER P o s λv=>Bh P (ds++[o.dst]) r K (s.put o.dst v)) (Bh P (ds++[o.dst]) r K (s.put o.dst .un))
theorem NM {ds:List (Option Tmp)}{o:Oper}{A B:Prop}(Vf :∀(j:Nat) d,ds[j]?=some d->(ops[j]?).map (·.dst)=some d)(h:Da ds o s A B):
  (Ch ops o s=some true/\A)∨(Ch ops o s=some false/\B):=by
 unfold Da at h;unfold Ch;split at h
 ·rename_i hg;rw[hg];exact .inl ⟨rfl,h⟩
 ·rename_i j want hg;rw[hg];dsimp only;split at h
  ·rename_i t ht;unfold Lv at h;split at h
   ·rename_i b hb;have:=Vf j _ ht;have hj:(ops[j]?).bind (·.dst)=some t:=by
     cases ho:ops[j]? with
     | none=>rw[ho]at this;cases this
     | some oj=>rw[ho]at this;simpa using this
    rw[hj];dsimp only;rw[hb];by_cases X3:b=want
    ·exact .inl ⟨by simp[X3],h.1 X3⟩
    ·exact .inr ⟨by simp[X3],h.2 X3⟩
   ·rename_i hb;have:=Vf j _ ht;have hj:(ops[j]?).bind (·.dst)=some t:=by
     cases ho:ops[j]? with
     | none=>rw[ho]at this;cases this
     | some oj=>rw[ho]at this;simpa using this
    rw[hj];dsimp only;rw[hb];exact .inr ⟨rfl,h⟩
   ·exact h.elim
  ·exact h.elim
theorem H4 {n g:Nat}{K:St->Prop}(WZ :∀T3,HeadInv md ops n T3->∀i,i<n->T3.getD i true=false->∀t,n<=t->t ∉ Region.ready md ops T3):
  ∀(l:List Oper) (ds:List (Option Tmp)) (T3:Array Bool) (s:St),(∀(j:Nat),j<l.length->l[j]?=ops[ds.length+j]?)->(∀(j:Nat) d,ds[j]?=some d->(ops[j]?).map (·.dst)=some d)->ds.length+l.length=n->HeadInv md ops n T3->
  Region.lexHead md ops g l.length ds.length T3=true->Bh P ds l K s->
  JF P md ops n (λUn s'=>Region.seqB md ops g n Un=true/\K s') l.length T3 s
 | [],ds,T3,s,_,_,hk,_,hB,h=>by
  have:ds.length=n:=by simpa using hk
  subst this;exact⟨by simpa [Region.lexHead] using hB,h⟩
 | o::l,ds,T3,s,hl,Vf,hk,inv,hB,h=>by
  have h0:ops[ds.length]?=some o:=by simpa using (hl 0 (by simp)).symm
  simp only[Si,Region.lexHead,SL]at hB;obtain⟨⟨hr,hf⟩,hB'⟩:=hB;have fL:ds.length<n:=by simp only[Si]at hk;omega
  have VL:ds.length∈Region.ready md ops T3:=by simpa using hr
  have V1 :∀(j:Nat) d,(ds++[o.dst])[j]?=some d->(ops[j]?).map (·.dst)=some d:=λj d hj=>by
   rcases SW j ds.length with h1|h1|h1
   ·rw[Rt h1]at hj;exact Vf j d hj
   ·subst h1;rw[Dv,Rn]at hj;rw[h0];simp[hj]
   ·rw[SE (by simp;omega)]at hj;cases hj
  have ck:∀s',Bh P (ds++[o.dst]) l K s'->JF P md ops n (λUn s'=>Region.seqB md ops g n Un=true/\K s') l.length (T3.setIfInBounds ds.length true) s':=λs' Vx=>
   H4 WZ l (ds++[o.dst]) _ s' (λj hj=>by
    have:=hl (j+1) (by simp;omega);simp only[SG]at this;rw[this];congr 1;simp;omega) V1 (by simp only[Si,SP,Sw]at hk⊢;omega) (inv.set VL fL) (by simpa using hB') Vx
  have X5:∀v,YA P ops o v s->Bh P (ds++[o.dst]) l K (s.put o.dst v)->JF P md ops n (λUn s'=>Region.seqB md ops g n Un=true/\K s') (l.length+1) T3 s:=λv hy hK=>
   L3 h0 WZ fL (λUn s' hL=>seqB_ready hL.1) l.length T3 s inv (Region.free_spec h0 hf) VL hy (ck _ hK)
  simp only[Bh]at h;rcases NM Vf h with ⟨hw,h1⟩|⟨hw,h1⟩
  ·obtain⟨v,hK,XI⟩:=Ml h1;exact X5 v (.inl ⟨hw,XI⟩) hK
  ·exact X5 .un (.inr ⟨hw,rfl⟩) h1
theorem Rel.drew (hr:Rel F os s a w):Rel F os s a w.drew/\Ext F os w F os w.drew k:=by
 have:=hr.JI (k:=k) (w':=w.drew) (b:=none) ⟨rfl,rfl,rfl,Rz _,λ_ _ _=>rfl⟩ (by simp) (Bz os) (λi o ho=>.inl ⟨ho,by simp⟩) hr.inj (λo ho g hg=>.inr ⟨o,ho,hg⟩) (by simp);refine⟨?_,this.2.1⟩;have h1:=this.1;rw[hr.st]at h1;exact h1
theorem Kl (n:Nat):HeadInv .any ops n (Array.replicate ops.size false):=
 ⟨by simp,λj oj _ hl=>(by rw[getD_replicate_false]at hl;cases hl),λt _ ht=>getD_in (by simpa using ht) (getD_replicate_false _ _)⟩
theorem D5 {id:Nat}{Q:Exit->St->Prop}(hm:P.follows .mixedOrders=true)(hB:Region.lexHead .any ops 0 ops.size 0 (Array.replicate ops.size false)=true)(hd:(ops.toList.all λo=>Bn s.n o.dst)=true)
  (h:Bh P [] ops.toList (λs'=>Q .normal s') s):AW P k (.region id ops true) Q s:=by
 intro F os a w hr;obtain⟨cl,he1⟩:=hr.drew (k:=k);refine wp_region_any hm ?_;have H:=H4 (md:=.any) (ops:=ops) (n:=ops.size) (g:=0) (K:=λs'=>Q .normal s') (P:=P) (λT3 _ i _ _ t ht hr=>by
   obtain⟨_,o,ho,_⟩:=mem_ready.1 hr;have:=(SZ.1 ho).1;omega) ops.toList [] _ s (by simp) (by simp) (by simp) (Kl _) (by simpa using hB) h
 have:=Eo (k:=k) (g:=0) (N:=s.n) (Q':=GM k Q F os w) (F0:=F) (os0:=os) (w0:=w) (λo ho=>Ru.1 hd o ho) (λT3 s' F' os' a' w' _ hL VL he=>by
  refine⟨by simpa [Region.seqB] using hL.1,?_⟩;exact⟨s',F',os',hL.2,VL,he⟩) _ _ s F os a w.drew rfl H cl he1
 simpa using this
end Go.Abs
