import Derived.Test.YtihdgoiebmfapaaGreatAbsRG
import Derived.RangeFuncLeaves
set_option linter.all false
namespace Go.Abs
open Go
def fg (o:Oper):Bool:=match o.op with|.load ..|.store ..=>true|_=>false
section
variable {P : Program} {k n : Nat} {ops : Array Oper}
theorem jJ {o:Oper}{Q Q':Exit->Act->World->Prop}{ds:List Deferred}(ho:fg o=true){a:Act}{w:World}{K K':Act->World->Prop}(hK :∀a w,K a w->K' { a with defers:=ds } w)(hQ :∀e a w,Q e a w->Q' e { a with defers:=ds } w)(h:o.wp P a w K Q):o.wp P { a with defers:=ds } w K' Q':=by
 unfold Oper.wp at h⊢;have e:execOp ({ a with defers:=ds }:Act).eval o=execOp a.eval o:=rfl;rw[e];have hp:∀d v,({ a with defers:=ds }:Act).put d v={ a.put d v with defers:=ds }:=λd v=>by cases d<;>rfl
 unfold fg at ho;unfold execOp at h⊢;cases hop:o.op<;>rw[hop]at ho<;>first|cases ho|skip
 case load t ad=>
  simp only[hop,qG]at h⊢;generalize (Instr.loadAt t (a.eval ad)).run P w=r at *;cases r with
  |ok v w'=>simp only[qD,qV,Oper.upon]at h⊢;rw[hp];exact hK _ _ h
  |halt x w'=>cases x<;>simp only[Result.andThen,Oper.upon]at h⊢<;>first|exact hQ _ _ _ h|exact h
 case store t ad v=>
  simp only[hop,qG]at h⊢;generalize (Instr.storeAt t (a.eval ad) (a.eval v)).run P w=r at *;cases r with
  |ok v w'=>simp only[qD,qV,Oper.upon]at h⊢;rw[hp];exact hK _ _ h
  |halt x w'=>cases x<;>simp only[Result.andThen,Oper.upon]at h⊢<;>first|exact hQ _ _ _ h|exact h
theorem Sf {Q Q':Exit->Act->World->Prop}{ds:List Deferred}(hQ :∀e a w,Q e a w->Q' e { a with defers:=ds } w):∀(r:List Oper),r.all fg=true->r.all (λo=>o.guard.isNone)=true->∀(a:Act) (w:World),wpList P ops Q r a w->wpList P ops Q' r { a with defers:=ds } w
 | [],_,_,a,w,h=>hQ _ _ _ h
 |o::r,hd,hg,a,w,h=>by
  simp only[rQ,pZ]at hd hg;have hp:∀d v,({ a with defers:=ds }:Act).put d v={ a.put d v with defers:=ds }:=λd v=>by cases d<;>rfl
  have hL:LetsOut Q->LetsOut Q':=λ⟨a,w,h⟩=>⟨_,w,hQ _ a w h⟩;unfold wpList at h⊢;have ew:Region.wanted o (yielded ops ({ a with defers:=ds }:Act).tmps)=Region.wanted o (yielded ops a.tmps):=rfl;rw[ew];split
  .rename_i hw;rw[pI hw]at h;rcases h with h|⟨h1,h2⟩
   .exact .inl (jJ hd.1 (λa w=>Sf hQ r hd.2 hg.2 a w) hQ h)
   .exact .inr ⟨h1,hL h2⟩
  .rename_i hw;rw[pJ hw]at h;rw[hp];exact Sf hQ r hd.2 hg.2 _ _ h
end
def UC (D:Nat):List Deferred:=[{ target:=.collected D,args:=#[] }]
def Td (F:Nat->Prop)(os:List Own)(w:World)(D:Nat):Prop:=w.heap[D]?=some (.deferred (some []))/\¬ F D/\∀o:Own,o∈os->¬ o.owns D
def X7 (k:Nat)(Q:Exit->St->Prop)(F:Nat->Prop)(os:List Own)(w:World)(D:Nat):Exit->Act->World->Prop:=
 λe a' w'=>∃s' F' os',Q e s'/\Rel F' os' s' { a' with defers:=[] } w'/\Ext F os w F' os' w' k/\a'.defers=UC D/\Td F' os' w' D
def UF (P:Program)(k:Nat)(c:Code)(Q:Exit->St->Prop)(s:St):Prop:=
 ∀F os a w D,Rel F os s { a with defers:=[] } w->a.defers=UC D->Td F os w D->c.wp P (X7 k Q F os w D) a w
def Q3 (P:Program)(k:Nat)(c:Code)(Q:Exit->St->Prop)(s:St):Prop:=
 ∀F os a w,Rel F os s a w->c.wp P (λe a' w'=>∃D,w.heap.size<=D/\X7 k Q F os w D e a' w') a w
section
variable {P : Program} {k n : Nat} {ops : Array Oper} {Q : Exit -> St -> Prop} {s : St}
theorem Td.ext {F F':Nat->Prop}{os os':List Own}{w w':World}{D:Nat}(h:Td F os w D)(he:Ext F os w F' os' w' k):Td F' os' w' D:=
 let ⟨e1,e2,e3⟩:=he.other D (px.1 h.1).1 h.2.1 h.2.2
 ⟨e1.trans h.1,e2,e3⟩
theorem UF.iq {id:Nat}(hd:(ops.toList.all λo=>Cy s.n o.dst)=true)(hl:ops.toList.all fg=true)(hg:ops.toList.all (λo=>o.guard.isNone)=true)(h:AO P k ops Q [] ops.toList s):UF P k (.region id ops false) Q s:=by
 intro F os a w D hr hm hD;have h1:=h (by simp) (by simp) (λo ho=>pG.1 hd o ho) F os _ w hr _ λ_ _ _ hp=>hp;have ha:a={ ({ a with defers:=[] }:Act) with defers:=UC D }:=by rw[<- hm]
 rw[ha];refine wp_region_list (Sf ?_ _ hl hg _ _ h1);rintro e a' w' ⟨s',F',os',hQ,hR,hE⟩;have hd':=hR.defers;refine⟨s',F',os',hQ,?_,hE,rfl,hD.ext hE⟩;have:({ ({ a' with defers:=UC D }:Act) with defers:=[] }:Act)=a':=by cases a';simp only at hd';rw[hd']
 rw[this];exact hR
theorem UF.ret (h:Q .ret s):UF P k .ret Q s:=λF os a w D hr hm hD=>wp_ret ⟨s,F,os,h,hr,Ext.refl _ _ _ _,hm,hD⟩
theorem X7.trans {F F':Nat->Prop}{os os':List Own}{w w':World}{D:Nat}(he:Ext F os w F' os' w' k){e:Exit}{a:Act}{w2:World}
  (h:X7 k Q F' os' w' D e a w2):X7 k Q F os w D e a w2:=
 let ⟨s2,F2,os2,hQ,hR,hE,hm,hD⟩:=h
 ⟨s2,F2,os2,hQ,hR,he.trans hE,hm,hD⟩
theorem UF.seq {x y:Code}(h :∀K:St->Prop,(∀s,UF P k y Q s->K s)->UF P k x (LQ K Q) s):UF P k (.seq x y) Q s:=by
 intro F os a w D hr hm hD;refine wp_seq (rn (h (UF P k y Q) (λ_ h=>h) F os a w D hr hm hD) ?_);rintro e a' w' ⟨s',F',os',hQ,hR,hE,hm',hD'⟩;cases e with
 |normal=>exact rn (hQ F' os' a' w' D hR hm' hD') λe a2 w2 hp=>hp.trans hE
 |exit id=>exact⟨s',F',os',hQ,hR,hE,hm',hD'⟩
 |goto l=>exact⟨s',F',os',hQ,hR,hE,hm',hD'⟩
 |ret=>exact⟨s',F',os',hQ,hR,hE,hm',hD'⟩
 |panic ch=>exact⟨s',F',os',hQ,hR,hE,hm',hD'⟩
 |outgrown=>exact⟨s',F',os',hQ,hR,hE,hm',hD'⟩
theorem Vh {x y:Code}(h :∀K:St->Prop,(∀s,Q3 P k y Q s->K s)->AW P k x (LQ K λ_ _=>False) s):Q3 P k (.seq x y) Q s:=by
 intro F os a w hr;refine wp_seq (rn (h (Q3 P k y Q) (λ_ h=>h) F os a w hr) ?_);rintro e a' w' ⟨s',F',os',hQ,hR,hE⟩;cases e with
 |normal=>
  refine rn (hQ F' os' a' w' hR) ?_;rintro e a2 w2 ⟨D,hD,hp⟩;exact⟨D,rl hE.size hD,hp.trans hE⟩
 |exit id=>exact hQ.elim
 |goto l=>exact hQ.elim
 |ret=>exact hQ.elim
 |panic ch=>exact hQ.elim
 |outgrown=>exact hQ.elim
theorem Q3.ns {x y:Code}(h :∀K:St->Prop,(∀s,UF P k y Q s->K s)->Q3 P k x (LQ K λ_ _=>False) s):Q3 P k (.seq x y) Q s:=by
 intro F os a w hr;refine wp_seq (rn (h (UF P k y Q) (λ_ h=>h) F os a w hr) ?_);rintro e a' w' ⟨D,hD0,s',F',os',hQ,hR,hE,hm',hD'⟩;cases e with
 |normal=>
  refine rn (hQ F' os' a' w' D hR hm' hD') ?_;rintro e a2 w2 hp;exact⟨D,hD0,hp.trans hE⟩
 |exit id=>exact hQ.elim
 |goto l=>exact hQ.elim
 |ret=>exact hQ.elim
 |panic ch=>exact hQ.elim
 |outgrown=>exact hQ.elim
theorem Q3.block {id:Nat}{c:Code}{K:St->Prop}(h:Q3 P k c (LQ K λ_ _=>False) s):Q3 P k (.block id c) (LQ K λ_ _=>False) s:=by
 intro F os a w hr;refine wp_block (rn (h F os a w hr) ?_);rintro e a' w' ⟨D,hD0,s',F',os',hQ,hR,hE,hm',hD'⟩;cases e with
 |normal=>exact⟨D,hD0,s',F',os',hQ,hR,hE,hm',hD'⟩
 |exit vH=>exact hQ.elim
 |goto l=>exact hQ.elim
 |ret=>exact hQ.elim
 |panic ch=>exact hQ.elim
 |outgrown=>exact hQ.elim
theorem SM {c:Code}{s':St}(hw:Wk k s s')(h:Q3 P k c Q s'):Q3 P k c Q s:=λF os a w hr=>by
 obtain⟨F1,vD,h1,e1⟩:=hw F os a w hr;refine rn (h F1 vD a w h1) ?_;rintro e a2 w2 ⟨D,hD,hp⟩;exact⟨D,rl e1.size hD,hp.trans e1⟩
theorem Ext.nS {F F':Nat->Prop}{os os':List Own}{w w':World}{k':Nat}(h:k<=k')(he:Ext F os w F' os' w' k'):Ext F os w F' os' w' k:=
 ⟨he.sys,he.tape,he.output,he.size,he.Ny,he.Ix,he.other,λi o hi ho=>he.Vn i o (by omega) ho⟩
theorem BJ.kq {N:Nat}{f:FuncId}{fn:Func}{c:Code}{args:List AV}{st:List Row}{R:AV->List Row->Prop}(hf:P.funcs[f]?=some fn)(hb:fn.body=some c)(hN:fn.ntmps=N)(hn:Nat.ble args.length N=true)(hk:st.length=k)
  (h:Q3 P k c (fy P k fn R) ⟨N,AP (Vc 0 args),st⟩):BJ P f args st R:=by
 subst hN;subst hk;have e:Pm args=AP (Vc 0 args):=by
  funext t;rw[Uz];simp[Pm,rM]
 rw[<- e]at h;intro F os w vs hs hl;refine (callsIn_wide (n:=0)).1 (callsIn_of_wp_marks hf hb oz ((wpIn_wide).2 ?_) rfl);have hlen:=BX hl;have hn:=qW hn;have hrel:Rel F os ⟨fn.ntmps,Pm args,st⟩ { tmps:=vs.toArray++Array.replicate (fn.ntmps-vs.toArray.size) undef,defers:=[] } w:=by
  refine⟨hs.st,λt=>?_,by simp;omega,hs.rows,hs.inj,hs.Fu,rfl⟩;simp only[Pm,rM,qm];by_cases ht:t<args.length
  .rw[pF ht,rK];obtain⟨u,e1,e2⟩:=CH hl t _ (pF ht);rw[qy (by simp;omega)];simp only[rq,e1,rK];exact e2
  .rw[qA (by omega),Option.getD_none];simp[Ab]
 refine rn (h F os _ w hrel) ?_;rintro e a' w' ⟨D,hD0,s',F',os',hQ,hR,hE,hm,hD⟩;have fin:(∃s2,Wk st.length s' s2/\ND P s2 fn.results.toList λvs=>R (SY vs) s2.st)->LeavesInM Fence.wide 0 P fn a'.tmps (λe w''=>
   ∃v r st' F' os',e=.returned v/\R r st'/\Hc F' os' st' w''/\Ab F' w'' os' r v/\Ext F os w F' os' w'' st.length) a'.defers .returning w':=λ⟨s2,hw,hres⟩=>by
  obtain⟨F2,os2,hR2,hE2⟩:=hw F' os' _ w' hR;obtain⟨hD1,hD2,hD3⟩:=hD.ext hE2;have xO:∀b,b≠D->(w'.putObj D (.deferred none)).heap[b]?=w'.heap[b]?:=λb hb=>World.putObj_heap_other hb;have hR3:Rel F2 os2 s2 { a' with defers:=[] } (w'.putObj D (.deferred none)):=hR2.Qw (by simp) λb hb=>xO b λe=>by
   rw[e]at hb;rcases hb with hb|⟨o,ho,hb⟩
   .exact hD2 hb
   .exact hD3 o ho hb
  have hE3:Ext F os w F2 os2 (w'.putObj D (.deferred none)) st.length:=(hE.trans hE2).Qw rfl rfl rfl (by simp) (λb hb=>xO b (by omega)) hs.Fu;obtain⟨rs,us,h1,h2,h3⟩:=NB hR3 _ _ hres;rw[hm];refine⟨by simp,.inl ⟨D,_,rfl,run_takeDeferred hD1,?_⟩⟩;refine⟨_,TK a'.tmps h2,_,_,s2.st,F2,os2,rfl,h1,hR3.store,?_,hE3⟩
  match rs,us,h3 with
  | [],us,h3=>simp only[Br]at h3;subst h3;simp[SY,Ab,Br,valOf]
  | [r],us,h3=>
   simp only[Br]at h3;obtain⟨u,_,rfl,h4,rfl⟩:=h3;exact h4
  |r::r'::rs,us,h3=>
   have h3':=h3;simp only[Br]at h3';obtain⟨u,_,rfl,_,u',us,rfl,_⟩:=h3';simp only[SY,Ab];exact⟨_,rfl,h3⟩
 cases e with
 |normal=>exact fin hQ
 |ret=>exact fin hQ
 |exit id=>exact hQ.elim
 |goto l=>exact hQ.elim
 |panic ch=>exact hQ.elim
 |outgrown=>exact hQ.elim
end
end Go.Abs
