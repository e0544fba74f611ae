import Derived.Test.YtihdgoiebmfapaaGreatAbsJ
set_option linter.all false
namespace Go.Abs
open Go
variable {P : Program} {F : Nat -> Prop} {os : List Own} {s : St} {a : Act} {w : World} {k : Nat}
def OB (args:List AV):Nat->AV:=λt=>args.getD t .E2
def Lz (P:Program)(s:St):List ResultVar->(List AV->Prop)->Prop
 | [],K=>K []
 | .tmp t::r,K=>Lz P s r λvs=>K (s.env t::vs)
 | .cell p t::r,K=>PV P s.st t (s.env p) λv=>Lz P s r λvs=>K (v::vs)
def RA:List AV->AV
 | [v]=>v
 | vs=>.Dp vs
def bF (P:Program)(k:Nat)(fn:Func)(R:AV->List Row->Prop):Exit->St->Prop
 | .normal,s|.ret,s=>∃s',Wk k s s'/\Lz P s' fn.results.toList λvs=>R (RA vs) s'.st
 | _,_=>False
def valOf:List Value->Value
 | [v]=>v
 | vs=>.tuple vs.toArray
def Rc (tmps:Array Value):ResultVar->Sem Value
 | .tmp t=>pure (tmps.getD t undef)
 | .cell p t=>do loadVar t (← asAddr (tmps.getD p undef))
theorem SB {fn:Func}{vs:List Value}(tmps:Array Value)(h:(fn.results.toList.mapM (Rc tmps)).run P w=.ok vs w):
  (results fn tmps).run P w=.ok (valOf vs) w:=by
 have e:results fn tmps=(do let vs ← fn.results.mapM (Rc tmps);pure (if h:vs.size=1 then vs[0] else .tuple vs)):=rfl;rw[e,kX,Array.mapM_eq_mapM_toList,Sem.run_map,h];simp only[kV,ku];congr 1
 match vs with
 | []=>simp[valOf]
 | [v]=>simp[valOf]
 | v::v'::r=>simp[valOf]
theorem Ll (hr:Rel F os s a w):∀(l:List ResultVar) (K:List AV->Prop),Lz P s l K->
  ∃vs us,K vs/\(l.mapM (Rc a.tmps)).run P w=.ok us w/\Br F w os vs us
 | [],K,h=>⟨[],[],h,by simp,by simp[Br]⟩
 | .tmp t::r,K,h=>by
  obtain⟨vs,us,h1,h2,h3⟩:=Ll hr r _ h;refine⟨_,a.tmps.getD t undef::us,h1,?_,by simp only[Br];exact⟨_,_,rfl,hr.env t,h3⟩⟩;simp only[mq,kX,Rc,ku,kV,h2]
 | .cell p t::r,K,h=>by
  obtain⟨v,u,h1,h2,h3⟩:=XM (P:=P) hr h (hr.env p);obtain⟨vs,us,e1,e2,e3⟩:=Ll hr r _ h1;refine⟨_,u::us,e1,?_,by simp only[Br];exact⟨_,_,rfl,h3,e3⟩⟩;have hp:∃ad,a.tmps.getD p undef=.pointer (some ad):=by
   unfold Instr.loadAt at h2;generalize a.tmps.getD p undef=pv at h2;unfold Instr.sureAddr at h2;split at h2
   ·exact⟨_,rfl⟩
   ·simp at h2
  obtain⟨ad,had⟩:=hp;rw[had]at h2;simp only[Instr.loadAt,Instr.sureAddr,kX,ku,kV]at h2;have ha:(asAddr (a.tmps.getD p undef)).run P w=.ok ad w:=by rw[had];rfl
  simp only[mq,kX,Rc,ha,ku,kV,h2,e2]
theorem Ab.intro {f:FuncId}{fn:Func}{c:Code}{args:List AV}{st:List Row}{R:AV->List Row->Prop}(hf:P.funcs[f]?=some fn)(hb:fn.body=some c)(hn:args.length<=fn.ntmps)
  (h:AW P st.length c (bF P st.length fn R) ⟨fn.ntmps,OB args,st⟩):Ab P f args st R:=by
 intro F os w vs hs hl;refine calls_of_wp hf hb ?_;have hlen:=BY hl;have hrel:Rel F os ⟨fn.ntmps,OB args,st⟩ { tmps:=vs.toArray++Array.replicate (fn.ntmps-vs.toArray.size) undef,defers:=[] } w:=by
  refine⟨hs.st,λt=>?_,by simp;omega,hs.rows,hs.inj,hs.FR,rfl⟩;simp only[OB,ll,lC];by_cases ht:t<args.length
  ·rw[jl ht,lg];obtain⟨u,e1,e2⟩:=CN hl t _ (jl ht);rw[lP (by simp;omega)];simp only[mN,e1,lg];exact e2
  ·rw[kq (by omega),Option.getD_none];simp[Ae]
 refine mK (h F os _ w hrel) ?_;rintro e a' w' ⟨s',F',os',hQ,hR,hE⟩;have fin:(∃s2,Wk st.length s' s2/\Lz P s2 fn.results.toList λvs=>R (RA vs) s2.st)->a'.defers=[]/\∃v,(results fn a'.tmps).run P w'=.ok v w'/\
   ∃v2 r st' F' os',Ending.returned v=.returned v2/\R r st'/\G4 F' os' st' w'/\Ae F' w' os' r v2/\Ext F os w F' os' w' st.length:=λ⟨s2,hw,hres⟩=>by
  obtain⟨F2,os2,hR2,hE2⟩:=hw F' os' a' w' hR;obtain⟨rs,us,h1,h2,h3⟩:=Ll hR2 _ _ hres;refine⟨hR2.defers,_,SB a'.tmps h2,_,_,s2.st,F2,os2,rfl,h1,hR2.store,?_,hE.trans hE2⟩
  match rs,us,h3 with
  | [],us,h3=>simp only[Br]at h3;subst h3;simp[RA,Ae,Br,valOf]
  | [r],us,h3=>
   simp only[Br]at h3;obtain⟨u,_,rfl,h4,rfl⟩:=h3;exact h4
  | r::r'::rs,us,h3=>
   have zB:=h3;simp only[Br]at zB;obtain⟨u,_,rfl,_,u',us,rfl,_⟩:=zB;simp only[RA,Ae];exact⟨_,rfl,h3⟩
 cases e with
 | normal=>exact fin hQ
 | ret=>exact fin hQ
 | exit id=>exact hQ.elim
 | goto l=>exact hQ.elim
 | panic ch=>exact hQ.elim
 | outgrown=>exact hQ.elim
theorem JD {t:Nat}(h:s.env t=.zc)(e:TypeId){size:Nat}(pZ:0<size):Wk k s { s with env:=EC s.env t (.own s.st.length 0 0),st:=s.st++[⟨0,e,size,[]⟩] }:=λF os a w hr=>by
 obtain⟨h1,h2,h3⟩:=hr.Vm (k:=k) (e:=e) pZ;refine⟨F,_,⟨h1.st,λj=>?_,h1.size,h1.rows,h1.inj,h1.FR,h1.defers⟩,h2⟩;simp only[EC];split
 ·rename_i ej;subst ej;have:=hr.env j;rw[h]at this;simp only[Ae]at this⊢;obtain⟨ad,ead⟩:=this;exact⟨⟨⟨0,e,size,[]⟩,none,0,FX⟩,by rw[hr.len];exact Jg _ _,jv _,⟨_,_,_,ead⟩,λ_=>⟨kE _,.inl ⟨rfl,ad,ead⟩⟩⟩
 ·exact h1.env j
def idx (l:List Nat)(x:Nat):Option Nat:=l.findIdx? (·==x)
def IN (sel:List Nat):AV->AV
 | .own id g n=>match idx sel id with
  | some j=>.own j g n
  | none=>.E2
 | .ptr id g i off=>match idx sel id with
  | some j=>.ptr j g i off
  | none=>.E2
 | .fn ..|.agg _|.Dp _=>.E2
 | v=>v
def KC (sel:List Nat)(x:AV):AV:=two (IN sel) x
theorem ZJ {sel:List Nat}{c:AV}{el s:Nat}{ys:List (List AV)}(h:KC sel c=.dv el s ys):c=.dv el s ys:=by
 refine SE (X:=IN sel) (λc h=>?_) h;cases c<;>simp only[IN]at h<;>first|exact h|cases h|(split at h<;>cases h)
def KB (sel:List Nat):AV->AV
 | .fn f cs=>.fn f (cs.map (KC sel))
 | .agg cs=>.agg (cs.map (KC sel))
 | .Dp cs=>.Dp (cs.map (KC sel))
 | v=>KC sel v
theorem cc {sel:List Nat}{os':List Own}(pd :∀j id,idx sel id=some j->os'[j]?=os[id]?){x:AV}{v:Value}(h:Ae F w os x v):Ae F w os' (IN sel x) v:=by
 cases x with
 | own id g n=>
  simp only[IN];split
  ·rename_i j hj;simp only[Ae]at h⊢;rw[pd j id hj];exact h
  ·simp[Ae]
 | ptr id g i off=>
  simp only[IN];split
  ·rename_i j hj;simp only[Ae]at h⊢;rw[pd j id hj];exact h
  ·simp[Ae]
 | fn f cs=>simp[IN,Ae]
 | agg cs=>simp[IN,Ae]
 | Dp cs=>simp[IN,Ae]
 | _=>simp only[IN,Ae]at h⊢<;>exact h
theorem Wz {sel:List Nat}{os':List Own}(pd :∀j id,idx sel id=some j->os'[j]?=os[id]?){x:AV}{v:Value}(h:Ae F w os x v):Ae F w os' (KC sel x) v:=
 LQ (λ_ _ h=>cc pd h) _ _ h
theorem Qp {sel:List Nat}{os':List Own}(pd :∀j id,idx sel id=some j->os'[j]?=os[id]?){xs:List AV}{us:List Value}(h:Br F w os xs us):Br F w os' (xs.map (KC sel)) us:=
 DZ (by simp[BY h]) λi x u hx hu=>by
  simp only[ji,jo]at hx;obtain⟨y,hy,rfl⟩:=hx;obtain⟨u',e1,e2⟩:=CN h i y hy;rw[hu]at e1;cases e1;exact Wz pd e2
theorem dE {sel:List Nat}{os':List Own}(pd :∀j id,idx sel id=some j->os'[j]?=os[id]?){x:AV}{v:Value}(h:Ae F w os x v):Ae F w os' (KB sel x) v:=by
 cases x with
 | fn f cs=>simp only[KB,Ae]at h⊢;obtain⟨us,e,hl⟩:=h;exact⟨us,e,Qp pd hl⟩
 | agg cs=>simp only[KB,Ae]at h⊢;obtain⟨us,e,hl⟩:=h;exact⟨us,e,Qp pd hl⟩
 | Dp cs=>simp only[KB,Ae]at h⊢;obtain⟨us,e,hl⟩:=h;exact⟨us,e,Qp pd hl⟩
 | _=>exact Wz pd h
def stays (sel:List Nat):AV->Bool
 | .own id _ _|.ptr id _ _ _=>sel[id]?==some id
 | .fn ..|.agg _|.Dp _=>false
 | _=>true
theorem Zl {sel:List Nat}{os':List Own}(pd :∀(j id:Nat),sel[j]?=some id->os'[j]?=os[id]?){x:AV}{v:Value}(hx:stays sel x=true)(h:Ae F w os x v):Ae F w os' x v:=by
 cases x with
 | own id g n=>
  simp only[stays,beq_iff_eq]at hx;simp only[Ae]at h⊢;rw[pd _ _ hx];exact h
 | ptr id g i off=>
  simp only[stays,beq_iff_eq]at hx;simp only[Ae]at h⊢;rw[pd _ _ hx];exact h
 | fn f cs=>simp[stays]at hx
 | agg cs=>simp[stays]at hx
 | Dp cs=>simp[stays]at hx
 | _=>simp only[Ae]at h⊢<;>exact h
def Cc (st:List Row)(sel:List Nat):List Row:=sel.filterMap (st[·]?)
theorem Wk.select (sel:List Nat)(hk :∀i,i<k->sel[i]?=some i)(qM:sel.Nodup)(pG :∀i∈sel,i<s.st.length)
  (qJ :∀i∈sel,∀row,s.st[i]?=some row->∀x∈row.xs,∀c∈x,stays sel c=true):Wk k s ⟨s.n,λt=>KB sel (s.env t),Cc s.st sel⟩:=λF os a w hr=>by
 have hlen:=hr.len;have rV:∀(j id:Nat),sel[j]?=some id->(sel.filterMap (os[·]?))[j]?=os[id]?:=by
  have :∀(l:List Nat),(∀i∈l,i<os.length)->∀(j id:Nat),l[j]?=some id->(l.filterMap (os[·]?))[j]?=os[id]?:=λl=>by
   induction l with
   | nil=>intro _ j id h;simp at h
   | cons i l ih=>
    intro hl j id h;have hi:=hl i (by simp);rw[lX,jl hi];cases j with
    | zero=>simp only[kK,jh]at h;subst h;simp[jl hi]
    | succ j=>simp only[kT]at h⊢;exact ih (λx hx=>hl x (by simp[hx])) j id h
  exact this sel (λi hi=>by rw[<- hlen];exact pG i hi)
 have xF:∀j id,idx sel id=some j->(sel.filterMap (os[·]?))[j]?=os[id]?:=λj id h=>by
  refine rV j id ?_;unfold idx at h;rw[lh]at h;obtain⟨hj,he,_⟩:=h;rw[jl hj];simpa using he
 have oe:∀(j:Nat) (o:Own),(sel.filterMap (os[·]?))[j]?=some o->∃id,sel[j]?=some id/\os[id]?=some o:=λj o h=>by
  have uP:(sel.filterMap (os[·]?)).length=sel.length:=by
   have :∀(l:List Nat),(∀i∈l,i<os.length)->(l.filterMap (os[·]?)).length=l.length:=λl=>by
    induction l with
    | nil=>simp
    | cons i l ih=>intro hl;rw[lX,jl (hl i (by simp))];simp[ih (λx hx=>hl x (by simp[hx]))]
   exact this sel (λi hi=>by rw[<- hlen];exact pG i hi)
  have hj:j<sel.length:=by rw[<- uP];exact (jg.1 h).1
  refine⟨sel[j],jl hj,?_⟩;rw[<- rV j _ (jl hj)];exact h
 refine⟨F,sel.filterMap (os[·]?),⟨?_,λt=>dE xF (hr.env t),hr.size,λj o ho=>?_,λi j oi oj b hi hj qX qY=>?_,hr.FR,hr.defers⟩,⟨rfl,rfl,rfl,jv _,λ_ h=>h,λ_ _=>rfl,λb _ h1 h2=>⟨rfl,h1,λo ho=>?_⟩,λi o hi ho=>⟨o,by rw[rV i i (hk i hi)];exact ho,jv _,rfl,λ_=>⟨rfl,rfl,rfl⟩⟩⟩⟩
 ·simp only[Cc,<- hr.st,nK];congr 1;funext i;simp
 ·obtain⟨id,rP,hoid⟩:=oe j o ho;have ob:=hr.rows id o hoid;refine⟨ob.pos,ob.lens,ob.none,λb hb=>?_,ob.mo,ob.deep⟩;obtain⟨h1,cur,h2,h3,h4,h5,h6⟩:=ob.some b hb;refine⟨h1,cur,h2,h3,h4,h5,λi x hx j' c hc=>?_⟩;obtain⟨u,e1,e2⟩:=h6 i x hx j' c hc;refine⟨u,e1,Zl rV (qJ id (je rP) o.row ?_ x (je hx) c (je hc)) e2⟩;rw[<- hr.st,ji,hoid];rfl
 ·obtain⟨id,rP,hoid⟩:=oe i oi hi;obtain⟨pW,hid',hoid'⟩:=oe j oj hj;have e:=hr.inj id pW oi oj b hoid hoid' qX qY;subst e;have rD:=jg.1 rP;have zC:=jg.1 hid';obtain⟨ve,vu⟩:=rD;obtain⟨tI,tZ⟩:=zC;have hp:=mW.1 qM;rcases lH i j with h|h|h
  ·exact absurd (vu.trans tZ.symm) (hp i j ve tI h)
  ·exact h
  ·exact absurd (tZ.trans vu.symm) (hp j i tI ve h)
 ·simp only[kz]at ho;obtain⟨i,_,hi⟩:=ho;exact h2 o (je hi)
end Go.Abs
