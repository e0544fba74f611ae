import Derived.Test.YtihdgoiebmfapaaGreatAbsRG
import Derived.RangeFuncLeaves
set_option linter.all false
namespace Go.Abs
open Go
def bU (o:Oper):Bool:=match o.op with|.load ..|.store ..=>true|_=>false
section
variable {P : Program} {k n : Nat} {ops : Array Oper}
theorem dg {o:Oper}{Q Q':Exit->Act->World->Prop}{ds:List Deferred}(ho:bU o=true){a:Act}{w:World}{K K':Act->World->Prop}(hK :∀a w,K a w->K' { a with defers:=ds } w)(hQ :∀e a w,Q e a w->Q' e { a with defers:=ds } w)(h:o.wp P a w K Q):o.wp P { a with defers:=ds } w K' Q':=by
 unfold Oper.wp at h⊢;have e:execOp ({ a with defers:=ds }:Act).eval o=execOp a.eval o:=rfl;rw[e];have hp:∀d v,({ a with defers:=ds }:Act).put d v={ a.put d v with defers:=ds }:=λd v=>by cases d<;>rfl
 unfold bU at ho;unfold execOp at h⊢;cases wU:o.op<;>rw[wU]at ho<;>first|cases ho|skip
 case load t ad=>
  simp only[wU,kX]at h⊢;generalize (Instr.loadAt t (a.eval ad)).run P w=r at *;cases r with
  | ok v w'=>simp only[kV,ku,Oper.upon]at h⊢;rw[hp];exact hK _ _ h
  | halt x w'=>cases x<;>simp only[Result.andThen,Oper.upon]at h⊢<;>first|exact hQ _ _ _ h|exact h
 case store t ad v=>
  simp only[wU,kX]at h⊢;generalize (Instr.storeAt t (a.eval ad) (a.eval v)).run P w=r at *;cases r with
  | ok v w'=>simp only[kV,ku,Oper.upon]at h⊢;rw[hp];exact hK _ _ h
  | halt x w'=>cases x<;>simp only[Result.andThen,Oper.upon]at h⊢<;>first|exact hQ _ _ _ h|exact h
theorem Q8 {Q Q':Exit->Act->World->Prop}{ds:List Deferred}(hQ :∀e a w,Q e a w->Q' e { a with defers:=ds } w):∀(r:List Oper),r.all bU=true->r.all (λo=>o.guard.isNone)=true->∀(a:Act) (w:World),wpList P ops Q r a w->wpList P ops Q' r { a with defers:=ds } w
 | [],_,_,a,w,h=>hQ _ _ _ h
 | o::r,hd,hg,a,w,h=>by
  simp only[lx,kF]at hd hg;have hp:∀d v,({ a with defers:=ds }:Act).put d v={ a.put d v with defers:=ds }:=λd v=>by cases d<;>rfl
  have hL:LetsOut Q->LetsOut Q':=λ⟨a,w,h⟩=>⟨_,w,hQ _ a w h⟩;unfold wpList at h⊢;have ew:Region.wanted o (yielded ops ({ a with defers:=ds }:Act).tmps)=Region.wanted o (yielded ops a.tmps):=rfl;rw[ew];split
  ·rename_i hw;rw[jm hw]at h;rcases h with h|⟨h1,h2⟩
   ·exact .inl (dg hd.1 (λa w=>Q8 hQ r hd.2 hg.2 a w) hQ h)
   ·exact .inr ⟨h1,hL h2⟩
  ·rename_i hw;rw[jn hw]at h;rw[hp];exact Q8 hQ r hd.2 hg.2 _ _ h
end
def Rq (D:Nat):List Deferred:=[{ target:=.collected D,args:=#[] }]
def Rb (F:Nat->Prop)(os:List Own)(w:World)(D:Nat):Prop:=w.heap[D]?=some (.deferred (some []))/\¬ F D/\∀o:Own,o∈os->¬ o.owns D
def VJ (k:Nat)(Q:Exit->St->Prop)(F:Nat->Prop)(os:List Own)(w:World)(D:Nat):Exit->Act->World->Prop:=
 λe a' w'=>∃s' F' os',Q e s'/\Rel F' os' s' { a' with defers:=[] } w'/\Ext F os w F' os' w' k/\a'.defers=Rq D/\Rb F' os' w' D
def RW (P:Program)(k:Nat)(c:Code)(Q:Exit->St->Prop)(s:St):Prop:=
 ∀F os a w D,Rel F os s { a with defers:=[] } w->a.defers=Rq D->Rb F os w D->c.wp P (VJ k Q F os w D) a w
def PS (P:Program)(k:Nat)(c:Code)(Q:Exit->St->Prop)(s:St):Prop:=
 ∀F os a w,Rel F os s a w->c.wp P (λe a' w'=>∃D,w.heap.size<=D/\VJ k Q F os w D e a' w') a w
section
variable {P : Program} {k n : Nat} {ops : Array Oper} {Q : Exit -> St -> Prop} {s : St}
theorem Rb.ext {F F':Nat->Prop}{os os':List Own}{w w':World}{D:Nat}(h:Rb F os w D)(he:Ext F os w F' os' w' k):Rb F' os' w' D:=
 let ⟨e1,e2,e3⟩:=he.other D (kR.1 h.1).1 h.2.1 h.2.2
 ⟨e1.trans h.1,e2,e3⟩
theorem RW.dq {id:Nat}(hd:(ops.toList.all λo=>DC s.n o.dst)=true)(hl:ops.toList.all bU=true)(hg:ops.toList.all (λo=>o.guard.isNone)=true)(h:AO P k ops Q [] ops.toList s):RW P k (.region id ops false) Q s:=by
 intro F os a w D hr hm hD;have h1:=h (by simp) (by simp) (λo ho=>jq.1 hd o ho) F os _ w hr _ λ_ _ _ hp=>hp;have ha:a={ ({ a with defers:=[] }:Act) with defers:=Rq D }:=by rw[<- hm]
 rw[ha];refine wp_region_list (Q8 ?_ _ hl hg _ _ h1);rintro e a' w' ⟨s',F',os',hQ,hR,hE⟩;have hd':=hR.defers;refine⟨s',F',os',hQ,?_,hE,rfl,hD.ext hE⟩;have:({ ({ a' with defers:=Rq D }:Act) with defers:=[] }:Act)=a':=by cases a';simp only at hd';rw[hd']
 rw[this];exact hR
theorem RW.ret (h:Q .ret s):RW P k .ret Q s:=λF os a w D hr hm hD=>wp_ret ⟨s,F,os,h,hr,Ext.refl _ _ _ _,hm,hD⟩
theorem VJ.trans {F F':Nat->Prop}{os os':List Own}{w w':World}{D:Nat}(he:Ext F os w F' os' w' k){e:Exit}{a:Act}{w2:World}
  (h:VJ k Q F' os' w' D e a w2):VJ k Q F os w D e a w2:=
 let ⟨s2,F2,os2,hQ,hR,hE,hm,hD⟩:=h
 ⟨s2,F2,os2,hQ,hR,he.trans hE,hm,hD⟩
theorem RW.seq {x y:Code}(h :∀K:St->Prop,(∀s,RW P k y Q s->K s)->RW P k x (KF K Q) s):RW P k (.seq x y) Q s:=by
 intro F os a w D hr hm hD;refine wp_seq (mK (h (RW P k y Q) (λ_ h=>h) F os a w D hr hm hD) ?_);rintro e a' w' ⟨s',F',os',hQ,hR,hE,uZ,hD'⟩;cases e with
 | normal=>exact mK (hQ F' os' a' w' D hR uZ hD') λe a2 w2 hp=>hp.trans hE
 | exit id=>exact⟨s',F',os',hQ,hR,hE,uZ,hD'⟩
 | goto l=>exact⟨s',F',os',hQ,hR,hE,uZ,hD'⟩
 | ret=>exact⟨s',F',os',hQ,hR,hE,uZ,hD'⟩
 | panic ch=>exact⟨s',F',os',hQ,hR,hE,uZ,hD'⟩
 | outgrown=>exact⟨s',F',os',hQ,hR,hE,uZ,hD'⟩
theorem Ti {x y:Code}(h :∀K:St->Prop,(∀s,PS P k y Q s->K s)->AW P k x (KF K λ_ _=>False) s):PS P k (.seq x y) Q s:=by
 intro F os a w hr;refine wp_seq (mK (h (PS P k y Q) (λ_ h=>h) F os a w hr) ?_);rintro e a' w' ⟨s',F',os',hQ,hR,hE⟩;cases e with
 | normal=>
  refine mK (hQ F' os' a' w' hR) ?_;rintro e a2 w2 ⟨D,hD,hp⟩;exact⟨D,mB hE.size hD,hp.trans hE⟩
 | exit id=>exact hQ.elim
 | goto l=>exact hQ.elim
 | ret=>exact hQ.elim
 | panic ch=>exact hQ.elim
 | outgrown=>exact hQ.elim
theorem PS.iY {x y:Code}(h :∀K:St->Prop,(∀s,RW P k y Q s->K s)->PS P k x (KF K λ_ _=>False) s):PS P k (.seq x y) Q s:=by
 intro F os a w hr;refine wp_seq (mK (h (RW P k y Q) (λ_ h=>h) F os a w hr) ?_);rintro e a' w' ⟨D,hD0,s',F',os',hQ,hR,hE,uZ,hD'⟩;cases e with
 | normal=>
  refine mK (hQ F' os' a' w' D hR uZ hD') ?_;rintro e a2 w2 hp;exact⟨D,hD0,hp.trans hE⟩
 | exit id=>exact hQ.elim
 | goto l=>exact hQ.elim
 | ret=>exact hQ.elim
 | panic ch=>exact hQ.elim
 | outgrown=>exact hQ.elim
theorem PS.block {id:Nat}{c:Code}{K:St->Prop}(h:PS P k c (KF K λ_ _=>False) s):PS P k (.block id c) (KF K λ_ _=>False) s:=by
 intro F os a w hr;refine wp_block (mK (h F os a w hr) ?_);rintro e a' w' ⟨D,hD0,s',F',os',hQ,hR,hE,uZ,hD'⟩;cases e with
 | normal=>exact⟨D,hD0,s',F',os',hQ,hR,hE,uZ,hD'⟩
 | exit pW=>exact hQ.elim
 | goto l=>exact hQ.elim
 | ret=>exact hQ.elim
 | panic ch=>exact hQ.elim
 | outgrown=>exact hQ.elim
theorem Qa {c:Code}{s':St}(hw:Wk k s s')(h:PS P k c Q s'):PS P k c Q s:=λF os a w hr=>by
 obtain⟨F1,pU,h1,e1⟩:=hw F os a w hr;refine mK (h F1 pU a w h1) ?_;rintro e a2 w2 ⟨D,hD,hp⟩;exact⟨D,mB e1.size hD,hp.trans e1⟩
theorem Ext.iQ {F F':Nat->Prop}{os os':List Own}{w w':World}{k':Nat}(h:k<=k')(he:Ext F os w F' os' w' k'):Ext F os w F' os' w' k:=
 ⟨he.sys,he.tape,he.output,he.size,he.NB,he.IJ,he.other,λi o hi ho=>he.Tf i o (by omega) ho⟩
theorem Ab.ef {N:Nat}{f:FuncId}{fn:Func}{c:Code}{args:List AV}{st:List Row}{R:AV->List Row->Prop}(hf:P.funcs[f]?=some fn)(hb:fn.body=some c)(hN:fn.ntmps=N)(hn:Nat.ble args.length N=true)(hk:st.length=k)
  (h:PS P k c (bF P k fn R) ⟨N,Aa (Tr 0 args),st⟩):Ab P f args st R:=by
 subst hN;subst hk;have e:OB args=Aa (Tr 0 args):=by
  funext t;rw[Sf];simp[OB,ll]
 rw[<- e]at h;intro F os w vs hs hl;refine (callsIn_wide (n:=0)).1 (callsIn_of_wp_marks hf hb jf ((wpIn_wide).2 ?_) rfl);have hlen:=BY hl;have hn:=lr hn;have hrel:Rel F os ⟨fn.ntmps,OB args,st⟩ { tmps:=vs.toArray++Array.replicate (fn.ntmps-vs.toArray.size) undef,defers:=[] } w:=by
  refine⟨hs.st,λt=>?_,by simp;omega,hs.rows,hs.inj,hs.FR,rfl⟩;simp only[OB,ll,lC];by_cases ht:t<args.length
  ·rw[jl ht,lg];obtain⟨u,e1,e2⟩:=CN hl t _ (jl ht);rw[lP (by simp;omega)];simp only[mN,e1,lg];exact e2
  ·rw[kq (by omega),Option.getD_none];simp[Ae]
 refine mK (h F os _ w hrel) ?_;rintro e a' w' ⟨D,hD0,s',F',os',hQ,hR,hE,hm,hD⟩;have fin:(∃s2,Wk st.length s' s2/\Lz P s2 fn.results.toList λvs=>R (RA vs) s2.st)->LeavesInM Fence.wide 0 P fn a'.tmps (λe vV=>
   ∃v r st' F' os',e=.returned v/\R r st'/\G4 F' os' st' vV/\Ae F' vV os' r v/\Ext F os w F' os' vV st.length) a'.defers .returning w':=λ⟨s2,hw,hres⟩=>by
  obtain⟨F2,os2,hR2,hE2⟩:=hw F' os' _ w' hR;obtain⟨hD1,hD2,hD3⟩:=hD.ext hE2;have rJ:∀b,b≠D->(w'.putObj D (.deferred none)).heap[b]?=w'.heap[b]?:=λb hb=>World.putObj_heap_other hb;have hR3:Rel F2 os2 s2 { a' with defers:=[] } (w'.putObj D (.deferred none)):=hR2.Pm (by simp) λb hb=>rJ b λe=>by
   rw[e]at hb;rcases hb with hb|⟨o,ho,hb⟩
   ·exact hD2 hb
   ·exact hD3 o ho hb
  have hE3:Ext F os w F2 os2 (w'.putObj D (.deferred none)) st.length:=(hE.trans hE2).Pm rfl rfl rfl (by simp) (λb hb=>rJ b (by omega)) hs.FR;obtain⟨rs,us,h1,h2,h3⟩:=Ll hR3 _ _ hres;rw[hm];refine⟨by simp,.inl ⟨D,_,rfl,run_takeDeferred hD1,?_⟩⟩;refine⟨_,SB a'.tmps h2,_,_,s2.st,F2,os2,rfl,h1,hR3.store,?_,hE3⟩
  match rs,us,h3 with
  | [],us,h3=>simp only[Br]at h3;subst h3;simp[RA,Ae,Br,valOf]
  | [r],us,h3=>
   simp only[Br]at h3;obtain⟨u,_,rfl,h4,rfl⟩:=h3;exact h4
  | r::r'::rs,us,h3=>
   have zB:=h3;simp only[Br]at zB;obtain⟨u,_,rfl,_,u',us,rfl,_⟩:=zB;simp only[RA,Ae];exact⟨_,rfl,h3⟩
 cases e with
 | normal=>exact fin hQ
 | ret=>exact fin hQ
 | exit id=>exact hQ.elim
 | goto l=>exact hQ.elim
 | panic ch=>exact hQ.elim
 | outgrown=>exact hQ.elim
end
end Go.Abs
