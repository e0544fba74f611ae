import Derived.Test.YtihdgoiebmfapaaGreatAbsJ
set_option linter.all false
namespace Go.Abs
open Go
variable {P : Program} {F : Nat -> Prop} {os : List Own} {s : St} {a : Act} {w : World} {k : Nat}
def Oy (args:List AV):Nat->AV:=λt=>args.getD t .E7
def MN (P:Program)(s:St):List ResultVar->(List AV->Prop)->Prop
 | [],K=>K []
 | .tmp t::r,K=>MN P s r λvs=>K (s.env t::vs)
 | .cell p t::r,K=>PX P s.st t (s.env p) λv=>MN P s r λvs=>K (v::vs)
def RQ:List AV->AV
 | [v]=>v
 | vs=>.Dd vs
def dI (P:Program)(k:Nat)(fn:Func)(R:AV->List Row->Prop):Exit->St->Prop
 | .normal,s|.ret,s=>∃s',Wk k s s'/\MN P s' fn.results.toList λvs=>R (RQ vs) s'.st
 | _,_=>False
def valOf:List Value->Value
 | [v]=>v
 | vs=>.tuple vs.toArray
def S4 (tmps:Array Value):ResultVar->Sem Value
 | .tmp t=>pure (tmps.getD t undef)
 | .cell p t=>do loadVar t (← asAddr (tmps.getD p undef))
theorem Sa {fn:Func}{vs:List Value}(tmps:Array Value)(h:(fn.results.toList.mapM (S4 tmps)).run P w=.ok vs w):
  (results fn tmps).run P w=.ok (valOf vs) w:=by
 have e:results fn tmps=(do let vs ← fn.results.mapM (S4 tmps);pure (if h:vs.size=1 then vs[0] else .tuple vs)):=rfl;rw[e,mW,Array.mapM_eq_mapM_toList,Sem.run_map,h];simp only[mT,mm];congr 1
 match vs with
 | []=>simp[valOf]
 | [v]=>simp[valOf]
 | v::v'::r=>simp[valOf]
theorem L7 (hr:Rel F os s a w):∀(l:List ResultVar) (K:List AV->Prop),MN P s l K->
  ∃vs us,K vs/\(l.mapM (S4 a.tmps)).run P w=.ok us w/\Bs F w os vs us
 | [],K,h=>⟨[],[],h,by simp,by simp[Bs]⟩
 | .tmp t::r,K,h=>by
  obtain⟨vs,us,h1,h2,h3⟩:=L7 hr r _ h;refine⟨_,a.tmps.getD t undef::us,h1,?_,by simp only[Bs];exact⟨_,_,rfl,hr.env t,h3⟩⟩;simp only[og,mW,S4,mm,mT,h2]
 | .cell p t::r,K,h=>by
  obtain⟨v,u,h1,h2,h3⟩:=Xr (P:=P) hr h (hr.env p);obtain⟨vs,us,e1,e2,e3⟩:=L7 hr r _ h1;refine⟨_,u::us,e1,?_,by simp only[Bs];exact⟨_,_,rfl,h3,e3⟩⟩;have hp:∃ad,a.tmps.getD p undef=.pointer (some ad):=by
   unfold Instr.loadAt at h2;generalize a.tmps.getD p undef=pv at h2;unfold Instr.sureAddr at h2;split at h2
   ·exact⟨_,rfl⟩
   ·simp at h2
  obtain⟨ad,had⟩:=hp;rw[had]at h2;simp only[Instr.loadAt,Instr.sureAddr,mW,mm,mT]at h2;have ha:(asAddr (a.tmps.getD p undef)).run P w=.ok ad w:=by rw[had];rfl
  simp only[og,mW,S4,ha,mm,mT,h2,e2]
theorem Ab.intro {f:FuncId}{fn:Func}{c:Code}{args:List AV}{st:List Row}{R:AV->List Row->Prop}(hf:P.funcs[f]?=some fn)(hb:fn.body=some c)(hn:args.length<=fn.ntmps)
  (h:AW P st.length c (dI P st.length fn R) ⟨fn.ntmps,Oy args,st⟩):Ab P f args st R:=by
 intro F os w vs hs hl;refine calls_of_wp hf hb ?_;have hlen:=BZ hl;have hrel:Rel F os ⟨fn.ntmps,Oy args,st⟩ { tmps:=vs.toArray++Array.replicate (fn.ntmps-vs.toArray.size) undef,defers:=[] } w:=by
  refine⟨hs.st,λt=>?_,by simp;omega,hs.rows,hs.inj,hs.FR,rfl⟩;simp only[Oy,ni,nB];by_cases ht:t<args.length
  ·rw[lZ ht,ng];obtain⟨u,e1,e2⟩:=CO hl t _ (lZ ht);rw[nP (by simp;omega)];simp only[oK,e1,ng];exact e2
  ·rw[mV (by omega),Option.getD_none];simp[Ae]
 refine oH (h F os _ w hrel) ?_;rintro e a' w' ⟨s',F',os',hQ,hR,hE⟩;have fin:(∃s2,Wk st.length s' s2/\MN P s2 fn.results.toList λvs=>R (RQ vs) s2.st)->a'.defers=[]/\∃v,(results fn a'.tmps).run P w'=.ok v w'/\
   ∃v2 r st' F' os',Ending.returned v=.returned v2/\R r st'/\HF F' os' st' w'/\Ae F' w' os' r v2/\Ext F os w F' os' w' st.length:=λ⟨s2,hw,hres⟩=>by
  obtain⟨F2,os2,hR2,hE2⟩:=hw F' os' a' w' hR;obtain⟨rs,us,h1,h2,h3⟩:=L7 hR2 _ _ hres;refine⟨hR2.defers,_,Sa a'.tmps h2,_,_,s2.st,F2,os2,rfl,h1,hR2.store,?_,hE.trans hE2⟩
  match rs,us,h3 with
  | [],us,h3=>simp only[Bs]at h3;subst h3;simp[RQ,Ae,Bs,valOf]
  | [r],us,h3=>
   simp only[Bs]at h3;obtain⟨u,_,rfl,h4,rfl⟩:=h3;exact h4
  | r::r'::rs,us,h3=>
   have h3':=h3;simp only[Bs]at h3';obtain⟨u,_,rfl,_,u',us,rfl,_⟩:=h3';simp only[RQ,Ae];exact⟨_,rfl,h3⟩
 cases e with
 | normal=>exact fin hQ
 | ret=>exact fin hQ
 | exit id=>exact hQ.elim
 | goto l=>exact hQ.elim
 | panic ch=>exact hQ.elim
 | outgrown=>exact hQ.elim
theorem Hb {t:Nat}(h:s.env t=.zc)(e:TypeId){size:Nat}(rQ:0<size):Wk k s { s with env:=EI s.env t (.own s.st.length 0 0),st:=s.st++[⟨0,e,size,[]⟩] }:=λF os a w hr=>by
 obtain⟨h1,h2,h3⟩:=hr.WD (k:=k) (e:=e) rQ;refine⟨F,_,⟨h1.st,λj=>?_,h1.size,h1.rows,h1.inj,h1.FR,h1.defers⟩,h2⟩;simp only[EI];split
 ·rename_i ej;subst ej;have:=hr.env j;rw[h]at this;simp only[Ae]at this⊢;obtain⟨ad,ead⟩:=this;exact⟨⟨⟨0,e,size,[]⟩,none,0,Fe⟩,by rw[hr.len];exact J0 _ _,ll _,⟨_,_,_,ead⟩,λ_=>⟨mB _,.inl ⟨rfl,ad,ead⟩⟩⟩
 ·exact h1.env j
def idx (l:List Nat)(x:Nat):Option Nat:=l.findIdx? (·==x)
def IZ (sel:List Nat):AV->AV
 | .own id g n=>match idx sel id with
  | some j=>.own j g n
  | none=>.E7
 | .ptr id g i off=>match idx sel id with
  | some j=>.ptr j g i off
  | none=>.E7
 | .fn ..|.agg _|.Dd _=>.E7
 | v=>v
def Ko (sel:List Nat)(x:AV):AV:=two (IZ sel) x
theorem Z5 {sel:List Nat}{c:AV}{el s:Nat}{ys:List (List AV)}(h:Ko sel c=.dv el s ys):c=.dv el s ys:=by
 refine Sg (X:=IZ sel) (λc h=>?_) h;cases c<;>simp only[IZ]at h<;>first|exact h|cases h|(split at h<;>cases h)
def KT (sel:List Nat):AV->AV
 | .fn f cs=>.fn f (cs.map (Ko sel))
 | .agg cs=>.agg (cs.map (Ko sel))
 | .Dd cs=>.Dd (cs.map (Ko sel))
 | v=>Ko sel v
theorem dT {sel:List Nat}{os':List Own}(rU :∀j id,idx sel id=some j->os'[j]?=os[id]?){x:AV}{v:Value}(h:Ae F w os x v):Ae F w os' (IZ sel x) v:=by
 cases x with
 | own id g n=>
  simp only[IZ];split
  ·rename_i j hj;simp only[Ae]at h⊢;rw[rU j id hj];exact h
  ·simp[Ae]
 | ptr id g i off=>
  simp only[IZ];split
  ·rename_i j hj;simp only[Ae]at h⊢;rw[rU j id hj];exact h
  ·simp[Ae]
 | fn f cs=>simp[IZ,Ae]
 | agg cs=>simp[IZ,Ae]
 | Dd cs=>simp[IZ,Ae]
 | _=>simp only[IZ,Ae]at h⊢<;>exact h
theorem YG {sel:List Nat}{os':List Own}(rU :∀j id,idx sel id=some j->os'[j]?=os[id]?){x:AV}{v:Value}(h:Ae F w os x v):Ae F w os' (Ko sel x) v:=
 Lb (λ_ _ h=>dT rU h) _ _ h
theorem RU {sel:List Nat}{os':List Own}(rU :∀j id,idx sel id=some j->os'[j]?=os[id]?){xs:List AV}{us:List Value}(h:Bs F w os xs us):Bs F w os' (xs.map (Ko sel)) us:=
 Db (by simp[BZ h]) λi x u hx hu=>by
  simp only[lW,lg]at hx;obtain⟨y,hy,rfl⟩:=hx;obtain⟨u',e1,e2⟩:=CO h i y hy;rw[hu]at e1;cases e1;exact YG rU e2
theorem eb {sel:List Nat}{os':List Own}(rU :∀j id,idx sel id=some j->os'[j]?=os[id]?){x:AV}{v:Value}(h:Ae F w os x v):Ae F w os' (KT sel x) v:=by
 cases x with
 | fn f cs=>simp only[KT,Ae]at h⊢;obtain⟨us,e,hl⟩:=h;exact⟨us,e,RU rU hl⟩
 | agg cs=>simp only[KT,Ae]at h⊢;obtain⟨us,e,hl⟩:=h;exact⟨us,e,RU rU hl⟩
 | Dd cs=>simp only[KT,Ae]at h⊢;obtain⟨us,e,hl⟩:=h;exact⟨us,e,RU rU hl⟩
 | _=>exact YG rU h
def stays (sel:List Nat):AV->Bool
 | .own id _ _|.ptr id _ _ _=>sel[id]?==some id
 | .fn ..|.agg _|.Dd _=>false
 | _=>true
theorem cH {sel:List Nat}{os':List Own}(rU :∀(j id:Nat),sel[j]?=some id->os'[j]?=os[id]?){x:AV}{v:Value}(hx:stays sel x=true)(h:Ae F w os x v):Ae F w os' x v:=by
 cases x with
 | own id g n=>
  simp only[stays,beq_iff_eq]at hx;simp only[Ae]at h⊢;rw[rU _ _ hx];exact h
 | ptr id g i off=>
  simp only[stays,beq_iff_eq]at hx;simp only[Ae]at h⊢;rw[rU _ _ hx];exact h
 | fn f cs=>simp[stays]at hx
 | agg cs=>simp[stays]at hx
 | Dd cs=>simp[stays]at hx
 | _=>simp only[Ae]at h⊢<;>exact h
def Cc (st:List Row)(sel:List Nat):List Row:=sel.filterMap (st[·]?)
theorem Wk.select (sel:List Nat)(hk :∀i,i<k->sel[i]?=some i)(sC:sel.Nodup)(qw :∀i∈sel,i<s.st.length)
  (sA :∀i∈sel,∀row,s.st[i]?=some row->∀x∈row.xs,∀c∈x,stays sel c=true):Wk k s ⟨s.n,λt=>KT sel (s.env t),Cc s.st sel⟩:=λF os a w hr=>by
 have hlen:=hr.len;have tU:∀(j id:Nat),sel[j]?=some id->(sel.filterMap (os[·]?))[j]?=os[id]?:=by
  have :∀(l:List Nat),(∀i∈l,i<os.length)->∀(j id:Nat),l[j]?=some id->(l.filterMap (os[·]?))[j]?=os[id]?:=λl=>by
   induction l with
   | nil=>intro _ j id h;simp at h
   | cons i l ih=>
    intro hl j id h;have hi:=hl i (by simp);rw[nX,lZ hi];cases j with
    | zero=>simp only[mI,lX]at h;subst h;simp[lZ hi]
    | succ j=>simp only[mQ]at h⊢;exact ih (λx hx=>hl x (by simp[hx])) j id h
  exact this sel (λi hi=>by rw[<- hlen];exact qw i hi)
 have zM:∀j id,idx sel id=some j->(sel.filterMap (os[·]?))[j]?=os[id]?:=λj id h=>by
  refine tU j id ?_;unfold idx at h;rw[nh]at h;obtain⟨hj,he,_⟩:=h;rw[lZ hj];simpa using he
 have qi:∀(j:Nat) (o:Own),(sel.filterMap (os[·]?))[j]?=some o->∃id,sel[j]?=some id/\os[id]?=some o:=λj o h=>by
  have wR:(sel.filterMap (os[·]?)).length=sel.length:=by
   have :∀(l:List Nat),(∀i∈l,i<os.length)->(l.filterMap (os[·]?)).length=l.length:=λl=>by
    induction l with
    | nil=>simp
    | cons i l ih=>intro hl;rw[nX,lZ (hl i (by simp))];simp[ih (λx hx=>hl x (by simp[hx]))]
   exact this sel (λi hi=>by rw[<- hlen];exact qw i hi)
  have hj:j<sel.length:=by rw[<- wR];exact (lV.1 h).1
  refine⟨sel[j],lZ hj,?_⟩;rw[<- tU j _ (lZ hj)];exact h
 refine⟨F,sel.filterMap (os[·]?),⟨?_,λt=>eb zM (hr.env t),hr.size,λj o ho=>?_,λi j oi oj b hi hj sM sN=>?_,hr.FR,hr.defers⟩,⟨rfl,rfl,rfl,ll _,λ_ h=>h,λ_ _=>rfl,λb _ h1 h2=>⟨rfl,h1,λo ho=>?_⟩,λi o hi ho=>⟨o,by rw[tU i i (hk i hi)];exact ho,ll _,rfl,λ_=>⟨rfl,rfl,rfl⟩⟩⟩⟩
 ·simp only[Cc,<- hr.st,pL];congr 1;funext i;simp
 ·obtain⟨id,tO,hoid⟩:=qi j o ho;have qf:=hr.rows id o hoid;refine⟨qf.pos,qf.lens,qf.none,λb hb=>?_,qf.mo,qf.deep⟩;obtain⟨h1,cur,h2,h3,h4,h5,h6⟩:=qf.some b hb;refine⟨h1,cur,h2,h3,h4,h5,λi x hx j' c hc=>?_⟩;obtain⟨u,e1,e2⟩:=h6 i x hx j' c hc;refine⟨u,e1,cH tU (sA id (lT tO) o.row ?_ x (lT hx) c (lT hc)) e2⟩;rw[<- hr.st,lW,hoid];rfl
 ·obtain⟨id,tO,hoid⟩:=qi i oi hi;obtain⟨rN,hid',hoid'⟩:=qi j oj hj;have e:=hr.inj id rN oi oj b hoid hoid' sM sN;subst e;have tD:=lV.1 tO;have hj':=lV.1 hid';obtain⟨xc,xy⟩:=tD;obtain⟨vR,vh⟩:=hj';have hp:=oS.1 sC;rcases nG i j with h|h|h
  ·exact absurd (xy.trans vh.symm) (hp i j xc vR h)
  ·exact h
  ·exact absurd (vh.trans xy.symm) (hp j i vR xc h)
 ·simp only[mu]at ho;obtain⟨i,_,hi⟩:=ho;exact h2 o (lT hi)
end Go.Abs
