import Derived.Test.YtihdgoiebmfapaaGreatAbsRG
import Derived.RangeFuncLeaves
set_option linter.all false
namespace Go.Abs
open Go
def cu (o:Oper):Bool:=match o.op with|.load ..|.store ..=>true|_=>false
section
variable {P : Program} {k n : Nat} {ops : Array Oper}
theorem eu {o:Oper}{Q Q':Exit->Act->World->Prop}{ds:List Deferred}(ho:cu o=true){a:Act}{w:World}{K K':Act->World->Prop}(hK :∀a w,K a w->K' { a with defers:=ds } w)(hQ :∀e a w,Q e a w->Q' e { a with defers:=ds } w)(h:o.wp P a w K Q):o.wp P { a with defers:=ds } w K' Q':=by
 unfold Oper.wp at h⊢;have e:execOp ({ a with defers:=ds }:Act).eval o=execOp a.eval o:=rfl;rw[e];have hp:∀d v,({ a with defers:=ds }:Act).put d v={ a.put d v with defers:=ds }:=λd v=>by cases d<;>rfl
 unfold cu at ho;unfold execOp at h⊢;cases yc:o.op<;>rw[yc]at ho<;>first|cases ho|skip
 case load t ad=>
  simp only[yc,mW]at h⊢;generalize (Instr.loadAt t (a.eval ad)).run P w=r at *;cases r with
  | ok v w'=>simp only[mT,mm,Oper.upon]at h⊢;rw[hp];exact hK _ _ h
  | halt x w'=>cases x<;>simp only[Result.andThen,Oper.upon]at h⊢<;>first|exact hQ _ _ _ h|exact h
 case store t ad v=>
  simp only[yc,mW]at h⊢;generalize (Instr.storeAt t (a.eval ad) (a.eval v)).run P w=r at *;cases r with
  | ok v w'=>simp only[mT,mm,Oper.upon]at h⊢;rw[hp];exact hK _ _ h
  | halt x w'=>cases x<;>simp only[Result.andThen,Oper.upon]at h⊢<;>first|exact hQ _ _ _ h|exact h
theorem Rg {Q Q':Exit->Act->World->Prop}{ds:List Deferred}(hQ :∀e a w,Q e a w->Q' e { a with defers:=ds } w):∀(r:List Oper),r.all cu=true->r.all (λo=>o.guard.isNone)=true->∀(a:Act) (w:World),wpList P ops Q r a w->wpList P ops Q' r { a with defers:=ds } w
 | [],_,_,a,w,h=>hQ _ _ _ h
 | o::r,hd,hg,a,w,h=>by
  simp only[ns,mE]at hd hg;have hp:∀d v,({ a with defers:=ds }:Act).put d v={ a.put d v with defers:=ds }:=λd v=>by cases d<;>rfl
  have hL:LetsOut Q->LetsOut Q':=λ⟨a,w,h⟩=>⟨_,w,hQ _ a w h⟩;unfold wpList at h⊢;have ew:Region.wanted o (yielded ops ({ a with defers:=ds }:Act).tmps)=Region.wanted o (yielded ops a.tmps):=rfl;rw[ew];split
  ·rename_i hw;rw[ld hw]at h;rcases h with h|⟨h1,h2⟩
   ·exact .inl (eu hd.1 (λa w=>Rg hQ r hd.2 hg.2 a w) hQ h)
   ·exact .inr ⟨h1,hL h2⟩
  ·rename_i hw;rw[la hw]at h;rw[hp];exact Rg hQ r hd.2 hg.2 _ _ h
end
def Si (D:Nat):List Deferred:=[{ target:=.collected D,args:=#[] }]
def So (F:Nat->Prop)(os:List Own)(w:World)(D:Nat):Prop:=w.heap[D]?=some (.deferred (some []))/\¬ F D/\∀o:Own,o∈os->¬ o.owns D
def Wq (k:Nat)(Q:Exit->St->Prop)(F:Nat->Prop)(os:List Own)(w:World)(D:Nat):Exit->Act->World->Prop:=
 λe a' w'=>∃s' F' os',Q e s'/\Rel F' os' s' { a' with defers:=[] } w'/\Ext F os w F' os' w' k/\a'.defers=Si D/\So F' os' w' D
def Sr (P:Program)(k:Nat)(c:Code)(Q:Exit->St->Prop)(s:St):Prop:=
 ∀F os a w D,Rel F os s { a with defers:=[] } w->a.defers=Si D->So F os w D->c.wp P (Wq k Q F os w D) a w
def Pz (P:Program)(k:Nat)(c:Code)(Q:Exit->St->Prop)(s:St):Prop:=
 ∀F os a w,Rel F os s a w->c.wp P (λe a' w'=>∃D,w.heap.size<=D/\Wq k Q F os w D e a' w') a w
section
variable {P : Program} {k n : Nat} {ops : Array Oper} {Q : Exit -> St -> Prop} {s : St}
theorem So.ext {F F':Nat->Prop}{os os':List Own}{w w':World}{D:Nat}(h:So F os w D)(he:Ext F os w F' os' w' k):So F' os' w' D:=
 let ⟨e1,e2,e3⟩:=he.other D (mO.1 h.1).1 h.2.1 h.2.2
 ⟨e1.trans h.1,e2,e3⟩
theorem Sr.eZ {id:Nat}(hd:(ops.toList.all λo=>DH s.n o.dst)=true)(hl:ops.toList.all cu=true)(hg:ops.toList.all (λo=>o.guard.isNone)=true)(h:AO P k ops Q [] ops.toList s):Sr P k (.region id ops false) Q s:=by
 intro F os a w D hr hm hD;have h1:=h (by simp) (by simp) (λo ho=>lh.1 hd o ho) F os _ w hr _ λ_ _ _ hp=>hp;have ha:a={ ({ a with defers:=[] }:Act) with defers:=Si D }:=by rw[<- hm]
 rw[ha];refine wp_region_list (Rg ?_ _ hl hg _ _ h1);rintro e a' w' ⟨s',F',os',hQ,hR,hE⟩;have hd':=hR.defers;refine⟨s',F',os',hQ,?_,hE,rfl,hD.ext hE⟩;have:({ ({ a' with defers:=Si D }:Act) with defers:=[] }:Act)=a':=by cases a';simp only at hd';rw[hd']
 rw[this];exact hR
theorem Sr.ret (h:Q .ret s):Sr P k .ret Q s:=λF os a w D hr hm hD=>wp_ret ⟨s,F,os,h,hr,Ext.refl _ _ _ _,hm,hD⟩
theorem Wq.trans {F F':Nat->Prop}{os os':List Own}{w w':World}{D:Nat}(he:Ext F os w F' os' w' k){e:Exit}{a:Act}{w2:World}
  (h:Wq k Q F' os' w' D e a w2):Wq k Q F os w D e a w2:=
 let ⟨s2,F2,os2,hQ,hR,hE,hm,hD⟩:=h
 ⟨s2,F2,os2,hQ,hR,he.trans hE,hm,hD⟩
theorem Sr.seq {x y:Code}(h :∀K:St->Prop,(∀s,Sr P k y Q s->K s)->Sr P k x (Kk K Q) s):Sr P k (.seq x y) Q s:=by
 intro F os a w D hr hm hD;refine wp_seq (oH (h (Sr P k y Q) (λ_ h=>h) F os a w D hr hm hD) ?_);rintro e a' w' ⟨s',F',os',hQ,hR,hE,wc,hD'⟩;cases e with
 | normal=>exact oH (hQ F' os' a' w' D hR wc hD') λe a2 w2 hp=>hp.trans hE
 | exit id=>exact⟨s',F',os',hQ,hR,hE,wc,hD'⟩
 | goto l=>exact⟨s',F',os',hQ,hR,hE,wc,hD'⟩
 | ret=>exact⟨s',F',os',hQ,hR,hE,wc,hD'⟩
 | panic ch=>exact⟨s',F',os',hQ,hR,hE,wc,hD'⟩
 | outgrown=>exact⟨s',F',os',hQ,hR,hE,wc,hD'⟩
theorem UI {x y:Code}(h :∀K:St->Prop,(∀s,Pz P k y Q s->K s)->AW P k x (Kk K λ_ _=>False) s):Pz P k (.seq x y) Q s:=by
 intro F os a w hr;refine wp_seq (oH (h (Pz P k y Q) (λ_ h=>h) F os a w hr) ?_);rintro e a' w' ⟨s',F',os',hQ,hR,hE⟩;cases e with
 | normal=>
  refine oH (hQ F' os' a' w' hR) ?_;rintro e a2 w2 ⟨D,hD,hp⟩;exact⟨D,nx hE.size hD,hp.trans hE⟩
 | exit id=>exact hQ.elim
 | goto l=>exact hQ.elim
 | ret=>exact hQ.elim
 | panic ch=>exact hQ.elim
 | outgrown=>exact hQ.elim
theorem Pz.kx {x y:Code}(h :∀K:St->Prop,(∀s,Sr P k y Q s->K s)->Pz P k x (Kk K λ_ _=>False) s):Pz P k (.seq x y) Q s:=by
 intro F os a w hr;refine wp_seq (oH (h (Sr P k y Q) (λ_ h=>h) F os a w hr) ?_);rintro e a' w' ⟨D,hD0,s',F',os',hQ,hR,hE,wc,hD'⟩;cases e with
 | normal=>
  refine oH (hQ F' os' a' w' D hR wc hD') ?_;rintro e a2 w2 hp;exact⟨D,hD0,hp.trans hE⟩
 | exit id=>exact hQ.elim
 | goto l=>exact hQ.elim
 | ret=>exact hQ.elim
 | panic ch=>exact hQ.elim
 | outgrown=>exact hQ.elim
theorem Pz.block {id:Nat}{c:Code}{K:St->Prop}(h:Pz P k c (Kk K λ_ _=>False) s):Pz P k (.block id c) (Kk K λ_ _=>False) s:=by
 intro F os a w hr;refine wp_block (oH (h F os a w hr) ?_);rintro e a' w' ⟨D,hD0,s',F',os',hQ,hR,hE,wc,hD'⟩;cases e with
 | normal=>exact⟨D,hD0,s',F',os',hQ,hR,hE,wc,hD'⟩
 | exit rN=>exact hQ.elim
 | goto l=>exact hQ.elim
 | ret=>exact hQ.elim
 | panic ch=>exact hQ.elim
 | outgrown=>exact hQ.elim
theorem RF {c:Code}{s':St}(hw:Wk k s s')(h:Pz P k c Q s'):Pz P k c Q s:=λF os a w hr=>by
 obtain⟨F1,rL,h1,e1⟩:=hw F os a w hr;refine oH (h F1 rL a w h1) ?_;rintro e a2 w2 ⟨D,hD,hp⟩;exact⟨D,nx e1.size hD,hp.trans e1⟩
theorem Ext.kH {F F':Nat->Prop}{os os':List Own}{w w':World}{k':Nat}(h:k<=k')(he:Ext F os w F' os' w' k'):Ext F os w F' os' w' k:=
 ⟨he.sys,he.tape,he.output,he.size,he.NQ,he.IX,he.other,λi o hi ho=>he.UL i o (by omega) ho⟩
theorem Ab.iX {N:Nat}{f:FuncId}{fn:Func}{c:Code}{args:List AV}{st:List Row}{R:AV->List Row->Prop}(hf:P.funcs[f]?=some fn)(hb:fn.body=some c)(hN:fn.ntmps=N)(hn:Nat.ble args.length N=true)(hk:st.length=k)
  (h:Pz P k c (dI P k fn R) ⟨N,Aa (US 0 args),st⟩):Ab P f args st R:=by
 subst hN;subst hk;have e:Oy args=Aa (US 0 args):=by
  funext t;rw[TS];simp[Oy,ni]
 rw[<- e]at h;intro F os w vs hs hl;refine (callsIn_wide (n:=0)).1 (callsIn_of_wp_marks hf hb lU ((wpIn_wide).2 ?_) rfl);have hlen:=BZ hl;have hn:=np hn;have hrel:Rel F os ⟨fn.ntmps,Oy args,st⟩ { tmps:=vs.toArray++Array.replicate (fn.ntmps-vs.toArray.size) undef,defers:=[] } w:=by
  refine⟨hs.st,λt=>?_,by simp;omega,hs.rows,hs.inj,hs.FR,rfl⟩;simp only[Oy,ni,nB];by_cases ht:t<args.length
  ·rw[lZ ht,ng];obtain⟨u,e1,e2⟩:=CO hl t _ (lZ ht);rw[nP (by simp;omega)];simp only[oK,e1,ng];exact e2
  ·rw[mV (by omega),Option.getD_none];simp[Ae]
 refine oH (h F os _ w hrel) ?_;rintro e a' w' ⟨D,hD0,s',F',os',hQ,hR,hE,hm,hD⟩;have fin:(∃s2,Wk st.length s' s2/\MN P s2 fn.results.toList λvs=>R (RQ vs) s2.st)->LeavesInM Fence.wide 0 P fn a'.tmps (λe xS=>
   ∃v r st' F' os',e=.returned v/\R r st'/\HF F' os' st' xS/\Ae F' xS os' r v/\Ext F os w F' os' xS st.length) a'.defers .returning w':=λ⟨s2,hw,hres⟩=>by
  obtain⟨F2,os2,hR2,hE2⟩:=hw F' os' _ w' hR;obtain⟨hD1,hD2,hD3⟩:=hD.ext hE2;have tJ:∀b,b≠D->(w'.putObj D (.deferred none)).heap[b]?=w'.heap[b]?:=λb hb=>World.putObj_heap_other hb;have hR3:Rel F2 os2 s2 { a' with defers:=[] } (w'.putObj D (.deferred none)):=hR2.QJ (by simp) λb hb=>tJ b λe=>by
   rw[e]at hb;rcases hb with hb|⟨o,ho,hb⟩
   ·exact hD2 hb
   ·exact hD3 o ho hb
  have hE3:Ext F os w F2 os2 (w'.putObj D (.deferred none)) st.length:=(hE.trans hE2).QJ rfl rfl rfl (by simp) (λb hb=>tJ b (by omega)) hs.FR;obtain⟨rs,us,h1,h2,h3⟩:=L7 hR3 _ _ hres;rw[hm];refine⟨by simp,.inl ⟨D,_,rfl,run_takeDeferred hD1,?_⟩⟩;refine⟨_,Sa a'.tmps h2,_,_,s2.st,F2,os2,rfl,h1,hR3.store,?_,hE3⟩
  match rs,us,h3 with
  | [],us,h3=>simp only[Bs]at h3;subst h3;simp[RQ,Ae,Bs,valOf]
  | [r],us,h3=>
   simp only[Bs]at h3;obtain⟨u,_,rfl,h4,rfl⟩:=h3;exact h4
  | r::r'::rs,us,h3=>
   have h3':=h3;simp only[Bs]at h3';obtain⟨u,_,rfl,_,u',us,rfl,_⟩:=h3';simp only[RQ,Ae];exact⟨_,rfl,h3⟩
 cases e with
 | normal=>exact fin hQ
 | ret=>exact fin hQ
 | exit id=>exact hQ.elim
 | goto l=>exact hQ.elim
 | panic ch=>exact hQ.elim
 | outgrown=>exact hQ.elim
end
end Go.Abs
