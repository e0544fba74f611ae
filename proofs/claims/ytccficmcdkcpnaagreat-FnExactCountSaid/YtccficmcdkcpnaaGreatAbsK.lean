import Derived.Test.YtccficmcdkcpnaaGreatAbsJ
set_option linter.all false
namespace Go.Abs
open Go
variable {P : Program} {F : Nat -> Prop} {os : List Own} {s : St} {a : Act} {w : World} {k : Nat}
def au (args:List AV):Nat->AV:=λt=>args.getD t .F6
def Qx (P:Program)(s:St):List ResultVar->(List AV->Prop)->Prop
 | [],K=>K []
 | .tmp t::r,K=>Qx P s r λvs=>K (s.env t::vs)
 | .cell p t::r,K=>TA P s.st t (s.env p) λv=>Qx P s r λvs=>K (v::vs)
def dF:List AV->AV
 | [v]=>v
 | vs=>.CW vs
def ju (P:Program)(k:Nat)(fn:Func)(R:AV->List Row->Prop):Exit->St->Prop
 | .normal,s|.ret,s=>∃s',Wk k s s'/\Qx P s' fn.results.toList λvs=>R (dF vs) s'.st
 | _,_=>False
def valOf:List Value->Value
 | [v]=>v
 | vs=>.tuple vs.toArray
def V5 (tmps:Array Value):ResultVar->Sem Value
 | .tmp t=>pure (tmps.getD t undef)
 | .cell p t=>do loadVar t (← asAddr (tmps.getD p undef))
theorem eN {fn:Func}{vs:List Value}(tmps:Array Value)(h:(fn.results.toList.mapM (V5 tmps)).run P w=.ok vs w):
  (results fn tmps).run P w=.ok (valOf vs) w:=by
 have e:results fn tmps=(do let vs ← fn.results.mapM (V5 tmps);pure (if h:vs.size=1 then vs[0] else .tuple vs)):=rfl;rw[e,vU,Array.mapM_eq_mapM_toList,Sem.run_map,h];simp only[vS,vv];congr 1
 match vs with
 | []=>simp[valOf]
 | [v]=>simp[valOf]
 | v::v'::r=>simp[valOf]
theorem R4 (hr:Rel F os s a w):∀(l:List ResultVar) (K:List AV->Prop),Qx P s l K->
  ∃vs us,K vs/\(l.mapM (V5 a.tmps)).run P w=.ok us w/\Bc F w os vs us
 | [],K,h=>⟨[],[],h,by simp,by simp[Bc]⟩
 | .tmp t::r,K,h=>by
  obtain⟨vs,us,h1,h2,h3⟩:=R4 hr r _ h;refine⟨_,a.tmps.getD t undef::us,h1,?_,by simp only[Bc];exact⟨_,_,rfl,hr.env t,h3⟩⟩;simp only[xk,vU,V5,vv,vS,h2]
 | .cell p t::r,K,h=>by
  obtain⟨v,u,h1,h2,h3⟩:=cy (P:=P) hr h (hr.env p);obtain⟨vs,us,e1,e2,e3⟩:=R4 hr r _ h1;refine⟨_,u::us,e1,?_,by simp only[Bc];exact⟨_,_,rfl,h3,e3⟩⟩;have hp:∃ad,a.tmps.getD p undef=.pointer (some ad):=by
   unfold Instr.loadAt at h2;generalize a.tmps.getD p undef=pv at h2;unfold Instr.sureAddr at h2;split at h2
   ·exact⟨_,rfl⟩
   ·simp at h2
  obtain⟨ad,had⟩:=hp;rw[had]at h2;simp only[Instr.loadAt,Instr.sureAddr,vU,vv,vS]at h2;have ha:(asAddr (a.tmps.getD p undef)).run P w=.ok ad w:=by rw[had];rfl
  simp only[xk,vU,V5,ha,vv,vS,h2,e2]
theorem BW.intro {f:FuncId}{fn:Func}{c:Code}{args:List AV}{st:List Row}{R:AV->List Row->Prop}(hf:P.funcs[f]?=some fn)(hb:fn.body=some c)(hn:args.length<=fn.ntmps)
  (h:AW P st.length c (ju P st.length fn R) ⟨fn.ntmps,au args,st⟩):BW P f args st R:=by
 intro F os w vs hs hl;refine calls_of_wp hf hb ?_;have hlen:=BR hl;have hrel:Rel F os ⟨fn.ntmps,au args,st⟩ { tmps:=vs.toArray++Array.replicate (fn.ntmps-vs.toArray.size) undef,defers:=[] } w:=by
  refine⟨hs.st,λt=>?_,by simp;omega,hs.rows,hs.inj,hs.GK,rfl⟩;simp only[au,xV,wc];by_cases ht:t<args.length
  ·rw[uQ ht,wq];obtain⟨u,e1,e2⟩:=Bo hl t _ (uQ ht);rw[wg (by simp;omega)];simp only[xp,e1,wq];exact e2
  ·rw[vf (by omega),Option.getD_none];simp[Ae]
 refine yv (h F os _ w hrel) ?_;rintro e a' w' ⟨s',F',os',hQ,hR,hE⟩;have fin:(∃s2,Wk st.length s' s2/\Qx P s2 fn.results.toList λvs=>R (dF vs) s2.st)->a'.defers=[]/\∃v,(results fn a'.tmps).run P w'=.ok v w'/\
   ∃v2 r st' F' os',Ending.returned v=.returned v2/\R r st'/\FN F' os' st' w'/\Ae F' w' os' r v2/\Ext F os w F' os' w' st.length:=λ⟨s2,hw,hres⟩=>by
  obtain⟨F2,os2,hR2,hE2⟩:=hw F' os' a' w' hR;obtain⟨rs,us,h1,h2,h3⟩:=R4 hR2 _ _ hres;refine⟨hR2.defers,_,eN a'.tmps h2,_,_,s2.st,F2,os2,rfl,h1,hR2.store,?_,hE.trans hE2⟩
  match rs,us,h3 with
  | [],us,h3=>simp only[Bc]at h3;subst h3;simp[dF,Ae,Bc,valOf]
  | [r],us,h3=>
   simp only[Bc]at h3;obtain⟨u,_,rfl,h4,rfl⟩:=h3;exact h4
  | r::r'::rs,us,h3=>
   have h3':=h3;simp only[Bc]at h3';obtain⟨u,_,rfl,_,u',us,rfl,_⟩:=h3';simp only[dF,Ae];exact⟨_,rfl,h3⟩
 cases e with
 | normal=>exact fin hQ
 | ret=>exact fin hQ
 | exit id=>exact hQ.elim
 | goto l=>exact hQ.elim
 | panic ch=>exact hQ.elim
 | outgrown=>exact hQ.elim
theorem ER {t:Nat}(h:s.env t=.zc)(e:TypeId){size:Nat}(hpos:0<size):Wk k s { s with env:=EW s.env t (.own s.st.length 0 0),st:=s.st++[⟨0,e,size,[]⟩] }:=λF os a w hr=>by
 obtain⟨h1,h2,h3⟩:=hr.ZX (k:=k) (e:=e) hpos;refine⟨F,_,⟨h1.st,λj=>?_,h1.size,h1.rows,h1.inj,h1.GK,h1.defers⟩,h2⟩;simp only[EW];split
 ·rename_i ej;subst ej;have:=hr.env j;rw[h]at this;simp only[Ae]at this⊢;obtain⟨ad,ead⟩:=this;exact⟨⟨⟨0,e,size,[]⟩,none,0,Gb⟩,by rw[hr.len];exact LJ _ _,uq _,⟨_,_,_,ead⟩,λ_=>⟨ue _,.inl ⟨rfl,ad,ead⟩⟩⟩
 ·exact h1.env j
def idx (l:List Nat)(x:Nat):Option Nat:=l.findIdx? (·==x)
def KJ (sel:List Nat):AV->AV
 | .own id g n=>match idx sel id with
  | some j=>.own j g n
  | none=>.F6
 | .ptr id g i off=>match idx sel id with
  | some j=>.ptr j g i off
  | none=>.F6
 | .fn ..|.agg _|.CW _=>.F6
 | v=>v
def Lj (sel:List Nat)(x:AV):AV:=two (KJ sel) x
theorem fB {sel:List Nat}{c:AV}{el s:Nat}{ys:List (List AV)}(h:Lj sel c=.dv el s ys):c=.dv el s ys:=by
 refine Yh (X:=KJ sel) (λc h=>?_) h;cases c<;>simp only[KJ]at h<;>first|exact h|cases h|(split at h<;>cases h)
def L0 (sel:List Nat):AV->AV
 | .fn f cs=>.fn f (cs.map (Lj sel))
 | .agg cs=>.agg (cs.map (Lj sel))
 | .CW cs=>.CW (cs.map (Lj sel))
 | v=>Lj sel v
theorem mc {sel:List Nat}{os':List Own}(hos :∀j id,idx sel id=some j->os'[j]?=os[id]?){x:AV}{v:Value}(h:Ae F w os x v):Ae F w os' (KJ sel x) v:=by
 cases x with
 | own id g n=>
  simp only[KJ];split
  ·rename_i j hj;simp only[Ae]at h⊢;rw[hos j id hj];exact h
  ·simp[Ae]
 | ptr id g i off=>
  simp only[KJ];split
  ·rename_i j hj;simp only[Ae]at h⊢;rw[hos j id hj];exact h
  ·simp[Ae]
 | fn f cs=>simp[KJ,Ae]
 | agg cs=>simp[KJ,Ae]
 | CW cs=>simp[KJ,Ae]
 | _=>simp only[KJ,Ae]at h⊢<;>exact h
theorem cU {sel:List Nat}{os':List Own}(hos :∀j id,idx sel id=some j->os'[j]?=os[id]?){x:AV}{v:Value}(h:Ae F w os x v):Ae F w os' (Lj sel x) v:=
 PQ (λ_ _ h=>mc hos h) _ _ h
theorem VJ {sel:List Nat}{os':List Own}(hos :∀j id,idx sel id=some j->os'[j]?=os[id]?){xs:List AV}{us:List Value}(h:Bc F w os xs us):Bc F w os' (xs.map (Lj sel)) us:=
 DZ (by simp[BR h]) λi x u hx hu=>by
  simp only[uP,uR]at hx;obtain⟨y,hy,rfl⟩:=hx;obtain⟨u',e1,e2⟩:=Bo h i y hy;rw[hu]at e1;cases e1;exact cU hos e2
theorem nt {sel:List Nat}{os':List Own}(hos :∀j id,idx sel id=some j->os'[j]?=os[id]?){x:AV}{v:Value}(h:Ae F w os x v):Ae F w os' (L0 sel x) v:=by
 cases x with
 | fn f cs=>simp only[L0,Ae]at h⊢;obtain⟨us,e,hl⟩:=h;exact⟨us,e,VJ hos hl⟩
 | agg cs=>simp only[L0,Ae]at h⊢;obtain⟨us,e,hl⟩:=h;exact⟨us,e,VJ hos hl⟩
 | CW cs=>simp only[L0,Ae]at h⊢;obtain⟨us,e,hl⟩:=h;exact⟨us,e,VJ hos hl⟩
 | _=>exact cU hos h
def stays (sel:List Nat):AV->Bool
 | .own id _ _|.ptr id _ _ _=>sel[id]?==some id
 | .fn ..|.agg _|.CW _=>false
 | _=>true
theorem jB {sel:List Nat}{os':List Own}(hos :∀(j id:Nat),sel[j]?=some id->os'[j]?=os[id]?){x:AV}{v:Value}(hx:stays sel x=true)(h:Ae F w os x v):Ae F w os' x v:=by
 cases x with
 | own id g n=>
  simp only[stays,beq_iff_eq]at hx;simp only[Ae]at h⊢;rw[hos _ _ hx];exact h
 | ptr id g i off=>
  simp only[stays,beq_iff_eq]at hx;simp only[Ae]at h⊢;rw[hos _ _ hx];exact h
 | fn f cs=>simp[stays]at hx
 | agg cs=>simp[stays]at hx
 | CW cs=>simp[stays]at hx
 | _=>simp only[Ae]at h⊢<;>exact h
def Ca (st:List Row)(sel:List Nat):List Row:=sel.filterMap (st[·]?)
theorem Wk.select (sel:List Nat)(hk :∀i,i<k->sel[i]?=some i)(hnd:sel.Nodup)(hlt :∀i∈sel,i<s.st.length)
  (hrows :∀i∈sel,∀row,s.st[i]?=some row->∀x∈row.xs,∀c∈x,stays sel c=true):Wk k s ⟨s.n,λt=>L0 sel (s.env t),Ca s.st sel⟩:=λF os a w hr=>by
 have hlen:=hr.len;have hos1:∀(j id:Nat),sel[j]?=some id->(sel.filterMap (os[·]?))[j]?=os[id]?:=by
  have :∀(l:List Nat),(∀i∈l,i<os.length)->∀(j id:Nat),l[j]?=some id->(l.filterMap (os[·]?))[j]?=os[id]?:=λl=>by
   induction l with
   | nil=>intro _ j id h;simp at h
   | cons i l ih=>
    intro hl j id h;have hi:=hl i (by simp);rw[wu,uQ hi];cases j with
    | zero=>simp only[vC,uO]at h;subst h;simp[uQ hi]
    | succ j=>simp only[vW]at h⊢;exact ih (λx hx=>hl x (by simp[hx])) j id h
  exact this sel (λi hi=>by rw[<- hlen];exact hlt i hi)
 have hos2:∀j id,idx sel id=some j->(sel.filterMap (os[·]?))[j]?=os[id]?:=λj id h=>by
  refine hos1 j id ?_;unfold idx at h;rw[we]at h;obtain⟨hj,he,_⟩:=h;rw[uQ hj];simpa using he
 have AAD:∀(j:Nat) (o:Own),(sel.filterMap (os[·]?))[j]?=some o->∃id,sel[j]?=some id/\os[id]?=some o:=λj o h=>by
  have hl2:(sel.filterMap (os[·]?)).length=sel.length:=by
   have :∀(l:List Nat),(∀i∈l,i<os.length)->(l.filterMap (os[·]?)).length=l.length:=λl=>by
    induction l with
    | nil=>simp
    | cons i l ih=>intro hl;rw[wu,uQ (hl i (by simp))];simp[ih (λx hx=>hl x (by simp[hx]))]
   exact this sel (λi hi=>by rw[<- hlen];exact hlt i hi)
  have hj:j<sel.length:=by rw[<- hl2];exact (uK.1 h).1
  refine⟨sel[j],uQ hj,?_⟩;rw[<- hos1 j _ (uQ hj)];exact h
 refine⟨F,sel.filterMap (os[·]?),⟨?_,λt=>nt hos2 (hr.env t),hr.size,λj o ho=>?_,λi j oi oj b hi hj hbi hbj=>?_,hr.GK,hr.defers⟩,⟨rfl,rfl,rfl,uq _,λ_ h=>h,λ_ _=>rfl,λb _ h1 h2=>⟨rfl,h1,λo ho=>?_⟩,λi o hi ho=>⟨o,by rw[hos1 i i (hk i hi)];exact ho,uq _,rfl,λ_=>⟨rfl,rfl,rfl⟩⟩⟩⟩
 ·simp only[Ca,<- hr.st,yN];congr 1;funext i;simp
 ·obtain⟨id,hid,hoid⟩:=AAD j o ho;have zp:=hr.rows id o hoid;refine⟨zp.pos,zp.lens,zp.none,λb hb=>?_,zp.mo,zp.deep⟩;obtain⟨h1,cur,h2,h3,h4,h5,h6⟩:=zp.some b hb;refine⟨h1,cur,h2,h3,h4,h5,λi x hx j' c hc=>?_⟩;obtain⟨u,e1,e2⟩:=h6 i x hx j' c hc;refine⟨u,e1,jB hos1 (hrows id (uL hid) o.row ?_ x (uL hx) c (uL hc)) e2⟩;rw[<- hr.st,uP,hoid];rfl
 ·obtain⟨id,hid,hoid⟩:=AAD i oi hi;obtain⟨id',hid',hoid'⟩:=AAD j oj hj;have e:=hr.inj id id' oi oj b hoid hoid' hbi hbj;subst e;have hi':=uK.1 hid;have hj':=uK.1 hid';obtain⟨hi1,hi2⟩:=hi';obtain⟨hj1,hj2⟩:=hj';have hp:=xG.1 hnd;rcases wD i j with h|h|h
  ·exact absurd (hi2.trans hj2.symm) (hp i j hi1 hj1 h)
  ·exact h
  ·exact absurd (hj2.trans hi2.symm) (hp j i hj1 hi1 h)
 ·simp only[wT]at ho;obtain⟨i,_,hi⟩:=ho;exact h2 o (uL hi)
end Go.Abs
