import Derived.Test.YtihdgoiebmfapaaGreatAbsRG
import Derived.RangeFuncLeaves
set_option linter.all false
namespace Go.Abs
open Go
def ft (o:Oper):Bool:=match o.op with|.load ..|.store ..=>true|_=>false
section
variable {P : Program} {k n : Nat} {ops : Array Oper}
theorem jo {o:Oper}{Q Q':Exit->Act->World->Prop}{ds:List Deferred}(ho:ft o=true){a:Act}{w:World}{K K':Act->World->Prop}(hK :∀a w,K a w->K' { a with defers:=ds } w)(hQ :∀e a w,Q e a w->Q' e { a with defers:=ds } w)(h:o.wp P a w K Q):o.wp P { a with defers:=ds } w K' Q':=by
 unfold Oper.wp at h⊢;have e:execOp ({ a with defers:=ds }:Act).eval o=execOp a.eval o:=rfl;rw[e];have hp:∀d v,({ a with defers:=ds }:Act).put d v={ a.put d v with defers:=ds }:=λd v=>by cases d<;>rfl
 unfold ft at ho;unfold execOp at h⊢;cases hop:o.op<;>rw[hop]at ho<;>first|cases ho|skip
 case load t ad=>
  simp only[hop,qH]at h⊢;generalize (Instr.loadAt t (a.eval ad)).run P w=r at *;cases r with
  |ok v w'=>simp only[qF,qW,Oper.upon]at h⊢;rw[hp];exact hK _ _ h
  |halt x w'=>cases x<;>simp only[Result.andThen,Oper.upon]at h⊢<;>first|exact hQ _ _ _ h|exact h
 case store t ad v=>
  simp only[hop,qH]at h⊢;generalize (Instr.storeAt t (a.eval ad) (a.eval v)).run P w=r at *;cases r with
  |ok v w'=>simp only[qF,qW,Oper.upon]at h⊢;rw[hp];exact hK _ _ h
  |halt x w'=>cases x<;>simp only[Result.andThen,Oper.upon]at h⊢<;>first|exact hQ _ _ _ h|exact h
theorem Si {Q Q':Exit->Act->World->Prop}{ds:List Deferred}(hQ :∀e a w,Q e a w->Q' e { a with defers:=ds } w):∀(r:List Oper),r.all ft=true->r.all (λo=>o.guard.isNone)=true->∀(a:Act) (w:World),wpList P ops Q r a w->wpList P ops Q' r { a with defers:=ds } w
 | [],_,_,a,w,h=>hQ _ _ _ h
 |o::r,hd,hg,a,w,h=>by
  simp only[rR,pb]at hd hg;have hp:∀d v,({ a with defers:=ds }:Act).put d v={ a.put d v with defers:=ds }:=λd v=>by cases d<;>rfl
  have hL:LetsOut Q->LetsOut Q':=λ⟨a,w,h⟩=>⟨_,w,hQ _ a w h⟩;unfold wpList at h⊢;have ew:Region.wanted o (yielded ops ({ a with defers:=ds }:Act).tmps)=Region.wanted o (yielded ops a.tmps):=rfl;rw[ew];split
  .rename_i hw;rw[pJ hw]at h;rcases h with h|⟨h1,h2⟩
   .exact .inl (jo hd.1 (λa w=>Si hQ r hd.2 hg.2 a w) hQ h)
   .exact .inr ⟨h1,hL h2⟩
  .rename_i hw;rw[pK hw]at h;rw[hp];exact Si hQ r hd.2 hg.2 _ _ h
end
def T1 (D:Nat):List Deferred:=[{ target:=.collected D,args:=#[] }]
def Ty (F:Nat->Prop)(os:List Own)(w:World)(D:Nat):Prop:=w.heap[D]?=some (.deferred (some []))/\¬ F D/\∀o:Own,o∈os->¬ o.owns D
def X3 (k:Nat)(Q:Exit->St->Prop)(F:Nat->Prop)(os:List Own)(w:World)(D:Nat):Exit->Act->World->Prop:=
 λe a' w'=>∃s' F' os',Q e s'/\Rel F' os' s' { a' with defers:=[] } w'/\Ext F os w F' os' w' k/\a'.defers=T1 D/\Ty F' os' w' D
def TP (P:Program)(k:Nat)(c:Code)(Q:Exit->St->Prop)(s:St):Prop:=
 ∀F os a w D,Rel F os s { a with defers:=[] } w->a.defers=T1 D->Ty F os w D->c.wp P (X3 k Q F os w D) a w
def Qo (P:Program)(k:Nat)(c:Code)(Q:Exit->St->Prop)(s:St):Prop:=
 ∀F os a w,Rel F os s a w->c.wp P (λe a' w'=>∃D,w.heap.size<=D/\X3 k Q F os w D e a' w') a w
section
variable {P : Program} {k n : Nat} {ops : Array Oper} {Q : Exit -> St -> Prop} {s : St}
theorem Ty.ext {F F':Nat->Prop}{os os':List Own}{w w':World}{D:Nat}(h:Ty F os w D)(he:Ext F os w F' os' w' k):Ty F' os' w' D:=
 let ⟨e1,e2,e3⟩:=he.other D (py.1 h.1).1 h.2.1 h.2.2
 ⟨e1.trans h.1,e2,e3⟩
theorem TP.jr {id:Nat}(hd:(ops.toList.all λo=>Cx s.n o.dst)=true)(hl:ops.toList.all ft=true)(hg:ops.toList.all (λo=>o.guard.isNone)=true)(h:AO P k ops Q [] ops.toList s):TP P k (.region id ops false) Q s:=by
 intro F os a w D hr hm hD;have h1:=h (by simp) (by simp) (λo ho=>pH.1 hd o ho) F os _ w hr _ λ_ _ _ hp=>hp;have ha:a={ ({ a with defers:=[] }:Act) with defers:=T1 D }:=by rw[<- hm]
 rw[ha];refine wp_region_list (Si ?_ _ hl hg _ _ h1);rintro e a' w' ⟨s',F',os',hQ,hR,hE⟩;have hd':=hR.defers;refine⟨s',F',os',hQ,?_,hE,rfl,hD.ext hE⟩;have:({ ({ a' with defers:=T1 D }:Act) with defers:=[] }:Act)=a':=by cases a';simp only at hd';rw[hd']
 rw[this];exact hR
theorem TP.ret (h:Q .ret s):TP P k .ret Q s:=λF os a w D hr hm hD=>wp_ret ⟨s,F,os,h,hr,Ext.refl _ _ _ _,hm,hD⟩
theorem X3.trans {F F':Nat->Prop}{os os':List Own}{w w':World}{D:Nat}(he:Ext F os w F' os' w' k){e:Exit}{a:Act}{w2:World}
  (h:X3 k Q F' os' w' D e a w2):X3 k Q F os w D e a w2:=
 let ⟨s2,F2,os2,hQ,hR,hE,hm,hD⟩:=h
 ⟨s2,F2,os2,hQ,hR,he.trans hE,hm,hD⟩
theorem TP.seq {x y:Code}(h :∀K:St->Prop,(∀s,TP P k y Q s->K s)->TP P k x (LX K Q) s):TP P k (.seq x y) Q s:=by
 intro F os a w D hr hm hD;refine wp_seq (rp (h (TP P k y Q) (λ_ h=>h) F os a w D hr hm hD) ?_);rintro e a' w' ⟨s',F',os',hQ,hR,hE,hm',hD'⟩;cases e with
 |normal=>exact rp (hQ F' os' a' w' D hR hm' hD') λe a2 w2 hp=>hp.trans hE
 |exit id=>exact⟨s',F',os',hQ,hR,hE,hm',hD'⟩
 |goto l=>exact⟨s',F',os',hQ,hR,hE,hm',hD'⟩
 |ret=>exact⟨s',F',os',hQ,hR,hE,hm',hD'⟩
 |panic ch=>exact⟨s',F',os',hQ,hR,hE,hm',hD'⟩
 |outgrown=>exact⟨s',F',os',hQ,hR,hE,hm',hD'⟩
theorem Vg {x y:Code}(h :∀K:St->Prop,(∀s,Qo P k y Q s->K s)->AW P k x (LX K λ_ _=>False) s):Qo P k (.seq x y) Q s:=by
 intro F os a w hr;refine wp_seq (rp (h (Qo P k y Q) (λ_ h=>h) F os a w hr) ?_);rintro e a' w' ⟨s',F',os',hQ,hR,hE⟩;cases e with
 |normal=>
  refine rp (hQ F' os' a' w' hR) ?_;rintro e a2 w2 ⟨D,hD,hp⟩;exact⟨D,rm hE.size hD,hp.trans hE⟩
 |exit id=>exact hQ.elim
 |goto l=>exact hQ.elim
 |ret=>exact hQ.elim
 |panic ch=>exact hQ.elim
 |outgrown=>exact hQ.elim
theorem Qo.oJ {x y:Code}(h :∀K:St->Prop,(∀s,TP P k y Q s->K s)->Qo P k x (LX K λ_ _=>False) s):Qo P k (.seq x y) Q s:=by
 intro F os a w hr;refine wp_seq (rp (h (TP P k y Q) (λ_ h=>h) F os a w hr) ?_);rintro e a' w' ⟨D,hD0,s',F',os',hQ,hR,hE,hm',hD'⟩;cases e with
 |normal=>
  refine rp (hQ F' os' a' w' D hR hm' hD') ?_;rintro e a2 w2 hp;exact⟨D,hD0,hp.trans hE⟩
 |exit id=>exact hQ.elim
 |goto l=>exact hQ.elim
 |ret=>exact hQ.elim
 |panic ch=>exact hQ.elim
 |outgrown=>exact hQ.elim
theorem Qo.block {id:Nat}{c:Code}{K:St->Prop}(h:Qo P k c (LX K λ_ _=>False) s):Qo P k (.block id c) (LX K λ_ _=>False) s:=by
 intro F os a w hr;refine wp_block (rp (h F os a w hr) ?_);rintro e a' w' ⟨D,hD0,s',F',os',hQ,hR,hE,hm',hD'⟩;cases e with
 |normal=>exact⟨D,hD0,s',F',os',hQ,hR,hE,hm',hD'⟩
 |exit vI=>exact hQ.elim
 |goto l=>exact hQ.elim
 |ret=>exact hQ.elim
 |panic ch=>exact hQ.elim
 |outgrown=>exact hQ.elim
theorem R5 {c:Code}{s':St}(hw:Wk k s s')(h:Qo P k c Q s'):Qo P k c Q s:=λF os a w hr=>by
 obtain⟨F1,vE,h1,e1⟩:=hw F os a w hr;refine rp (h F1 vE a w h1) ?_;rintro e a2 w2 ⟨D,hD,hp⟩;exact⟨D,rm e1.size hD,hp.trans e1⟩
theorem Ext.ni {F F':Nat->Prop}{os os':List Own}{w w':World}{k':Nat}(h:k<=k')(he:Ext F os w F' os' w' k'):Ext F os w F' os' w' k:=
 ⟨he.sys,he.tape,he.output,he.size,he.N7,he.Iy,he.other,λi o hi ho=>he.Vo i o (by omega) ho⟩
theorem BJ.ko {N:Nat}{f:FuncId}{fn:Func}{c:Code}{args:List AV}{st:List Row}{R:AV->List Row->Prop}(hf:P.funcs[f]?=some fn)(hb:fn.body=some c)(hN:fn.ntmps=N)(hn:Nat.ble args.length N=true)(hk:st.length=k)
  (h:Qo P k c (fa P k fn R) ⟨N,AP (Vw 0 args),st⟩):BJ P f args st R:=by
 subst hN;subst hk;have e:Pe args=AP (Vw 0 args):=by
  funext t;rw[U2];simp[Pe,rN]
 rw[<- e]at h;intro F os w vs hs hl;refine (callsIn_wide (n:=0)).1 (callsIn_of_wp_marks hf hb pA ((wpIn_wide).2 ?_) rfl);have hlen:=BV hl;have hn:=qX hn;have hrel:Rel F os ⟨fn.ntmps,Pe args,st⟩ { tmps:=vs.toArray++Array.replicate (fn.ntmps-vs.toArray.size) undef,defers:=[] } w:=by
  refine⟨hs.st,λt=>?_,by simp;omega,hs.rows,hs.inj,hs.Fp,rfl⟩;simp only[Pe,rN,qn];by_cases ht:t<args.length
  .rw[pG ht,rL];obtain⟨u,e1,e2⟩:=CH hl t _ (pG ht);rw[qz (by simp;omega)];simp only[rr,e1,rL];exact e2
  .rw[qB (by omega),Option.getD_none];simp[Ab]
 refine rp (h F os _ w hrel) ?_;rintro e a' w' ⟨D,hD0,s',F',os',hQ,hR,hE,hm,hD⟩;have fin:(∃s2,Wk st.length s' s2/\NF P s2 fn.results.toList λvs=>R (SP vs) s2.st)->LeavesInM Fence.wide 0 P fn a'.tmps (λe w''=>
   ∃v r st' F' os',e=.returned v/\R r st'/\Hh F' os' st' w''/\Ab F' w'' os' r v/\Ext F os w F' os' w'' st.length) a'.defers .returning w':=λ⟨s2,hw,hres⟩=>by
  obtain⟨F2,os2,hR2,hE2⟩:=hw F' os' _ w' hR;obtain⟨hD1,hD2,hD3⟩:=hD.ext hE2;have xP:∀b,b≠D->(w'.putObj D (.deferred none)).heap[b]?=w'.heap[b]?:=λb hb=>World.putObj_heap_other hb;have hR3:Rel F2 os2 s2 { a' with defers:=[] } (w'.putObj D (.deferred none)):=hR2.Q6 (by simp) λb hb=>xP b λe=>by
   rw[e]at hb;rcases hb with hb|⟨o,ho,hb⟩
   .exact hD2 hb
   .exact hD3 o ho hb
  have hE3:Ext F os w F2 os2 (w'.putObj D (.deferred none)) st.length:=(hE.trans hE2).Q6 rfl rfl rfl (by simp) (λb hb=>xP b (by omega)) hs.Fp;obtain⟨rs,us,h1,h2,h3⟩:=Mw hR3 _ _ hres;rw[hm];refine⟨by simp,.inl ⟨D,_,rfl,run_takeDeferred hD1,?_⟩⟩;refine⟨_,UC a'.tmps h2,_,_,s2.st,F2,os2,rfl,h1,hR3.store,?_,hE3⟩
  match rs,us,h3 with
  | [],us,h3=>simp only[Br]at h3;subst h3;simp[SP,Ab,Br,valOf]
  | [r],us,h3=>
   simp only[Br]at h3;obtain⟨u,_,rfl,h4,rfl⟩:=h3;exact h4
  |r::r'::rs,us,h3=>
   have h3':=h3;simp only[Br]at h3';obtain⟨u,_,rfl,_,u',us,rfl,_⟩:=h3';simp only[SP,Ab];exact⟨_,rfl,h3⟩
 cases e with
 |normal=>exact fin hQ
 |ret=>exact fin hQ
 |exit id=>exact hQ.elim
 |goto l=>exact hQ.elim
 |panic ch=>exact hQ.elim
 |outgrown=>exact hQ.elim
end
end Go.Abs
