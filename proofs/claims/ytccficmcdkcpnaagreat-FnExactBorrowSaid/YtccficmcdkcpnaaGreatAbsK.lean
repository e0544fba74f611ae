import Derived.Test.YtccficmcdkcpnaaGreatAbsJ
set_option linter.all false
namespace Go.Abs
open Go
variable {P : Program} {F : Nat -> Prop} {os : List Own} {s : St} {a : Act} {w : World} {k : Nat}
def U4 (args:List AV):Nat->AV:=λt=>args.getD t .FQ
def Nr (P:Program)(s:St):List ResultVar->(List AV->Prop)->Prop
 | [],K=>K []
 | .tmp t::r,K=>Nr P s r λvs=>K (s.env t::vs)
 | .cell p t::r,K=>PD P s.st t (s.env p) λv=>Nr P s r λvs=>K (v::vs)
def YY:List AV->AV
 | [v]=>v
 | vs=>.C7 vs
def fS (P:Program)(k:Nat)(fn:Func)(R:AV->List Row->Prop):Exit->St->Prop
 | .normal,s|.ret,s=>∃s',Wk k s s'/\Nr P s' fn.results.toList λvs=>R (YY vs) s'.st
 | _,_=>False
def valOf:List Value->Value
 | [v]=>v
 | vs=>.tuple vs.toArray
def R6 (tmps:Array Value):ResultVar->Sem Value
 | .tmp t=>pure (tmps.getD t undef)
 | .cell p t=>do loadVar t (← asAddr (tmps.getD p undef))
theorem Xr {fn:Func}{vs:List Value}(tmps:Array Value)(h:(fn.results.toList.mapM (R6 tmps)).run P w=.ok vs w):
  (results fn tmps).run P w=.ok (valOf vs) w:=by
 have e:results fn tmps=(do let vs ← fn.results.mapM (R6 tmps);pure (if h:vs.size=1 then vs[0] else .tuple vs)):=rfl;rw[e,nU,Array.mapM_eq_mapM_toList,Sem.run_map,h];simp only[nR,nq];congr 1
 match vs with
 | []=>simp[valOf]
 | [v]=>simp[valOf]
 | v::v'::r=>simp[valOf]
theorem Nz (hr:Rel F os s a w):∀(l:List ResultVar) (K:List AV->Prop),Nr P s l K->
  ∃vs us,K vs/\(l.mapM (R6 a.tmps)).run P w=.ok us w/\A7 F w os vs us
 | [],K,h=>⟨[],[],h,by simp,by simp[A7]⟩
 | .tmp t::r,K,h=>by
  obtain⟨vs,us,h1,h2,h3⟩:=Nz hr r _ h;refine⟨_,a.tmps.getD t undef::us,h1,?_,by simp only[A7];exact⟨_,_,rfl,hr.env t,h3⟩⟩;simp only[pj,nU,R6,nq,nR,h2]
 | .cell p t::r,K,h=>by
  obtain⟨v,u,h1,h2,h3⟩:=Wp (P:=P) hr h (hr.env p);obtain⟨vs,us,e1,e2,e3⟩:=Nz hr r _ h1;refine⟨_,u::us,e1,?_,by simp only[A7];exact⟨_,_,rfl,h3,e3⟩⟩;have hp:∃ad,a.tmps.getD p undef=.pointer (some ad):=by
   unfold Instr.loadAt at h2;generalize a.tmps.getD p undef=pv at h2;unfold Instr.sureAddr at h2;split at h2
   ·exact⟨_,rfl⟩
   ·simp at h2
  obtain⟨ad,had⟩:=hp;rw[had]at h2;simp only[Instr.loadAt,Instr.sureAddr,nU,nq,nR]at h2;have ha:(asAddr (a.tmps.getD p undef)).run P w=.ok ad w:=by rw[had];rfl
  simp only[pj,nU,R6,ha,nq,nR,h2,e2]
theorem BJ.intro {f:FuncId}{fn:Func}{c:Code}{args:List AV}{st:List Row}{R:AV->List Row->Prop}(hf:P.funcs[f]?=some fn)(hb:fn.body=some c)(hn:args.length<=fn.ntmps)
  (h:AW P st.length c (fS P st.length fn R) ⟨fn.ntmps,U4 args,st⟩):BJ P f args st R:=by
 intro F os w vs hs hl;refine calls_of_wp hf hb ?_;have hlen:=A3 hl;have ry:Rel F os ⟨fn.ntmps,U4 args,st⟩ { tmps:=vs.toArray++Array.replicate (fn.ntmps-vs.toArray.size) undef,defers:=[] } w:=by
  refine⟨hs.st,λt=>?_,by simp;omega,hs.rows,hs.inj,hs.FU,rfl⟩;simp only[U4,pW,oY];by_cases ht:t<args.length
  ·rw[mY ht,oh];obtain⟨u,e1,e2⟩:=BQ hl t _ (mY ht);rw[oa (by simp;omega)];simp only[pt,e1,oh];exact e2
  ·rw[nG (by omega),Option.getD_none];simp[AU]
 refine qk (h F os _ w ry) ?_;rintro e a' w' ⟨s',F',os',hQ,hR,hE⟩;have fin:(∃s2,Wk st.length s' s2/\Nr P s2 fn.results.toList λvs=>R (YY vs) s2.st)->a'.defers=[]/\∃v,(results fn a'.tmps).run P w'=.ok v w'/\
   ∃v2 r st' F' os',Ending.returned v=.returned v2/\R r st'/\FT F' os' st' w'/\AU F' w' os' r v2/\Ext F os w F' os' w' st.length:=λ⟨s2,hw,hres⟩=>by
  obtain⟨F2,os2,hR2,xb⟩:=hw F' os' a' w' hR;obtain⟨rs,us,h1,h2,h3⟩:=Nz hR2 _ _ hres;refine⟨hR2.defers,_,Xr a'.tmps h2,_,_,s2.st,F2,os2,rfl,h1,hR2.store,?_,hE.trans xb⟩
  match rs,us,h3 with
  | [],us,h3=>simp only[A7]at h3;subst h3;simp[YY,AU,A7,valOf]
  | [r],us,h3=>
   simp only[A7]at h3;obtain⟨u,_,rfl,h4,rfl⟩:=h3;exact h4
  | r::r'::rs,us,h3=>
   have h3':=h3;simp only[A7]at h3';obtain⟨u,_,rfl,_,u',us,rfl,_⟩:=h3';simp only[YY,AU];exact⟨_,rfl,h3⟩
 cases e with
 | normal=>exact fin hQ
 | ret=>exact fin hQ
 | exit id=>exact hQ.elim
 | goto l=>exact hQ.elim
 | panic ch=>exact hQ.elim
 | outgrown=>exact hQ.elim
theorem Fk {t:Nat}(h:s.env t=.zc)(e:TypeId){size:Nat}(sQ:0<size):Wk k s { s with env:=Ew s.env t (.own s.st.length 0 0),st:=s.st++[⟨0,e,size,[]⟩] }:=λF os a w hr=>by
 obtain⟨h1,h2,h3⟩:=hr.VU (k:=k) (e:=e) sQ;refine⟨F,_,⟨h1.st,λj=>?_,h1.size,h1.rows,h1.inj,h1.FU,h1.defers⟩,h2⟩;simp only[Ew];split
 ·rename_i ej;subst ej;have:=hr.env j;rw[h]at this;simp only[AU]at this⊢;obtain⟨ad,ead⟩:=this;exact⟨⟨⟨0,e,size,[]⟩,none,0,FI⟩,by rw[hr.len];exact IL _ _,ml _,⟨_,_,_,ead⟩,λ_=>⟨mi _,.inl ⟨rfl,ad,ead⟩⟩⟩
 ·exact h1.env j
def idx (l:List Nat)(x:Nat):Option Nat:=l.findIdx? (·==x)
def Ho (sel:List Nat):AV->AV
 | .own id g n=>match idx sel id with
  | some j=>.own j g n
  | none=>.FQ
 | .ptr id g i off=>match idx sel id with
  | some j=>.ptr j g i off
  | none=>.FQ
 | .fn ..|.agg _|.C7 _=>.FQ
 | v=>v
def Ht (sel:List Nat)(x:AV):AV:=two (Ho sel) x
theorem Zf {sel:List Nat}{c:AV}{el s:Nat}{ys:List (List AV)}(h:Ht sel c=.dv el s ys):c=.dv el s ys:=by
 refine YN (X:=Ho sel) (λc h=>?_) h;cases c<;>simp only[Ho]at h<;>first|exact h|cases h|(split at h<;>cases h)
def Jg (sel:List Nat):AV->AV
 | .fn f cs=>.fn f (cs.map (Ht sel))
 | .agg cs=>.agg (cs.map (Ht sel))
 | .C7 cs=>.C7 (cs.map (Ht sel))
 | v=>Ht sel v
theorem dS {sel:List Nat}{os':List Own}(sP :∀j id,idx sel id=some j->os'[j]?=os[id]?){x:AV}{v:Value}(h:AU F w os x v):AU F w os' (Ho sel x) v:=by
 cases x with
 | own id g n=>
  simp only[Ho];split
  ·rename_i j hj;simp only[AU]at h⊢;rw[sP j id hj];exact h
  ·simp[AU]
 | ptr id g i off=>
  simp only[Ho];split
  ·rename_i j hj;simp only[AU]at h⊢;rw[sP j id hj];exact h
  ·simp[AU]
 | fn f cs=>simp[Ho,AU]
 | agg cs=>simp[Ho,AU]
 | C7 cs=>simp[Ho,AU]
 | _=>simp only[Ho,AU]at h⊢<;>exact h
theorem Wz {sel:List Nat}{os':List Own}(sP :∀j id,idx sel id=some j->os'[j]?=os[id]?){x:AV}{v:Value}(h:AU F w os x v):AU F w os' (Ht sel x) v:=
 Nt (λ_ _ h=>dS sP h) _ _ h
theorem Rj {sel:List Nat}{os':List Own}(sP :∀j id,idx sel id=some j->os'[j]?=os[id]?){xs:List AV}{us:List Value}(h:A7 F w os xs us):A7 F w os' (xs.map (Ht sel)) us:=
 Cq (by simp[A3 h]) λi x u hx hu=>by
  simp only[mX,mZ]at hx;obtain⟨y,hy,rfl⟩:=hx;obtain⟨u',e1,e2⟩:=BQ h i y hy;rw[hu]at e1;cases e1;exact Wz sP e2
theorem fY {sel:List Nat}{os':List Own}(sP :∀j id,idx sel id=some j->os'[j]?=os[id]?){x:AV}{v:Value}(h:AU F w os x v):AU F w os' (Jg sel x) v:=by
 cases x with
 | fn f cs=>simp only[Jg,AU]at h⊢;obtain⟨us,e,hl⟩:=h;exact⟨us,e,Rj sP hl⟩
 | agg cs=>simp only[Jg,AU]at h⊢;obtain⟨us,e,hl⟩:=h;exact⟨us,e,Rj sP hl⟩
 | C7 cs=>simp only[Jg,AU]at h⊢;obtain⟨us,e,hl⟩:=h;exact⟨us,e,Rj sP hl⟩
 | _=>exact Wz sP h
def stays (sel:List Nat):AV->Bool
 | .own id _ _|.ptr id _ _ _=>sel[id]?==some id
 | .fn ..|.agg _|.C7 _=>false
 | _=>true
theorem aN {sel:List Nat}{os':List Own}(sP :∀(j id:Nat),sel[j]?=some id->os'[j]?=os[id]?){x:AV}{v:Value}(hx:stays sel x=true)(h:AU F w os x v):AU F w os' x v:=by
 cases x with
 | own id g n=>
  simp only[stays,beq_iff_eq]at hx;simp only[AU]at h⊢;rw[sP _ _ hx];exact h
 | ptr id g i off=>
  simp only[stays,beq_iff_eq]at hx;simp only[AU]at h⊢;rw[sP _ _ hx];exact h
 | fn f cs=>simp[stays]at hx
 | agg cs=>simp[stays]at hx
 | C7 cs=>simp[stays]at hx
 | _=>simp only[AU]at h⊢<;>exact h
def B9 (st:List Row)(sel:List Nat):List Row:=sel.filterMap (st[·]?)
theorem Wk.select (sel:List Nat)(hk :∀i,i<k->sel[i]?=some i)(tX:sel.Nodup)(rh :∀i∈sel,i<s.st.length)
  (sv :∀i∈sel,∀row,s.st[i]?=some row->∀x∈row.xs,∀c∈x,stays sel c=true):Wk k s ⟨s.n,λt=>Jg sel (s.env t),B9 s.st sel⟩:=λF os a w hr=>by
 have hlen:=hr.len;have uV:∀(j id:Nat),sel[j]?=some id->(sel.filterMap (os[·]?))[j]?=os[id]?:=by
  have :∀(l:List Nat),(∀i∈l,i<os.length)->∀(j id:Nat),l[j]?=some id->(l.filterMap (os[·]?))[j]?=os[id]?:=λl=>by
   induction l with
   | nil=>intro _ j id h;simp at h
   | cons i l ih=>
    intro hl j id h;have hi:=hl i (by simp);rw[pA,mY hi];cases j with
    | zero=>simp only[mw,mU]at h;subst h;simp[mY hi]
    | succ j=>simp only[nV]at h⊢;exact ih (λx hx=>hl x (by simp[hx])) j id h
  exact this sel (λi hi=>by rw[<- hlen];exact rh i hi)
 have zF:∀j id,idx sel id=some j->(sel.filterMap (os[·]?))[j]?=os[id]?:=λj id h=>by
  refine uV j id ?_;unfold idx at h;rw[oZ]at h;obtain⟨hj,he,_⟩:=h;rw[mY hj];simpa using he
 have rb:∀(j:Nat) (o:Own),(sel.filterMap (os[·]?))[j]?=some o->∃id,sel[j]?=some id/\os[id]?=some o:=λj o h=>by
  have uW:(sel.filterMap (os[·]?)).length=sel.length:=by
   have :∀(l:List Nat),(∀i∈l,i<os.length)->(l.filterMap (os[·]?)).length=l.length:=λl=>by
    induction l with
    | nil=>simp
    | cons i l ih=>intro hl;rw[pA,mY (hl i (by simp))];simp[ih (λx hx=>hl x (by simp[hx]))]
   exact this sel (λi hi=>by rw[<- hlen];exact rh i hi)
  have hj:j<sel.length:=by rw[<- uW];exact (mT.1 h).1
  refine⟨sel[j],mY hj,?_⟩;rw[<- uV j _ (mY hj)];exact h
 refine⟨F,sel.filterMap (os[·]?),⟨?_,λt=>fY zF (hr.env t),hr.size,λj o ho=>?_,λi j oi oj b hi hj uH uQ=>?_,hr.FU,hr.defers⟩,⟨rfl,rfl,rfl,ml _,λ_ h=>h,λ_ _=>rfl,λb _ h1 h2=>⟨rfl,h1,λo ho=>?_⟩,λi o hi ho=>⟨o,by rw[uV i i (hk i hi)];exact ho,ml _,rfl,λ_=>⟨rfl,rfl,rfl⟩⟩⟩⟩
 ·simp only[B9,<- hr.st,qM];congr 1;funext i;simp
 ·obtain⟨id,uj,hoid⟩:=rb j o ho;have rR:=hr.rows id o hoid;refine⟨rR.pos,rR.lens,rR.none,λb hb=>?_,rR.mo,rR.deep⟩;obtain⟨h1,cur,h2,h3,h4,h5,h6⟩:=rR.some b hb;refine⟨h1,cur,h2,h3,h4,h5,λi x hx j' c hc=>?_⟩;obtain⟨u,e1,e2⟩:=h6 i x hx j' c hc;refine⟨u,e1,aN uV (sv id (mS uj) o.row ?_ x (mS hx) c (mS hc)) e2⟩;rw[<- hr.st,mX,hoid];rfl
 ·obtain⟨id,uj,hoid⟩:=rb i oi hi;obtain⟨sm,hid',hoid'⟩:=rb j oj hj;have e:=hr.inj id sm oi oj b hoid hoid' uH uQ;subst e;have tz:=mT.1 uj;have hj':=mT.1 hid';obtain⟨xQ,wh⟩:=tz;obtain⟨vm,vU⟩:=hj';have hp:=pa.1 tX;rcases oI i j with h|h|h
  ·exact absurd (wh.trans vU.symm) (hp i j xQ vm h)
  ·exact h
  ·exact absurd (vU.trans wh.symm) (hp j i vm xQ h)
 ·simp only[oM]at ho;obtain⟨i,_,hi⟩:=ho;exact h2 o (mS hi)
end Go.Abs
