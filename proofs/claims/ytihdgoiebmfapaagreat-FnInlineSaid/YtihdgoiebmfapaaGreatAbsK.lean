import Derived.Test.YtihdgoiebmfapaaGreatAbsJ
set_option linter.all false
namespace Go.Abs
open Go
variable {P : Program} {F : Nat -> Prop} {os : List Own} {s : St} {a : Act} {w : World} {k : Nat}
def Pe (args:List AV):Nat->AV:=λt=>args.getD t .FY
def NF (P:Program)(s:St):List ResultVar->(List AV->Prop)->Prop
 | [],K=>K []
 |.tmp t::r,K=>NF P s r λvs=>K (s.env t::vs)
 |.cell p t::r,K=>Qn P s.st t (s.env p) λv=>NF P s r λvs=>K (v::vs)
def SP:List AV->AV
 | [v]=>v
 |vs=>.DF vs
def fa (P:Program)(k:Nat)(fn:Func)(R:AV->List Row->Prop):Exit->St->Prop
 |.normal,s|.ret,s=>∃s',Wk k s s'/\NF P s' fn.results.toList λvs=>R (SP vs) s'.st
 |_,_=>False
def valOf:List Value->Value
 | [v]=>v
 |vs=>.tuple vs.toArray
def UW (tmps:Array Value):ResultVar->Sem Value
 |.tmp t=>pure (tmps.getD t undef)
 |.cell p t=>do loadVar t (← asAddr (tmps.getD p undef))
theorem UC {fn:Func}{vs:List Value}(tmps:Array Value)(h:(fn.results.toList.mapM (UW tmps)).run P w=.ok vs w):
  (results fn tmps).run P w=.ok (valOf vs) w:=by
 have e:results fn tmps=(do let vs ← fn.results.mapM (UW tmps);pure (if h:vs.size=1 then vs[0] else .tuple vs)):=rfl;rw[e,qH,Array.mapM_eq_mapM_toList,Sem.run_map,h];simp only[qF,qW];congr 1
 match vs with
 | []=>simp[valOf]
 | [v]=>simp[valOf]
 |v::v'::r=>simp[valOf]
theorem Mw (hr:Rel F os s a w):∀(l:List ResultVar) (K:List AV->Prop),NF P s l K->
  ∃vs us,K vs/\(l.mapM (UW a.tmps)).run P w=.ok us w/\Br F w os vs us
 | [],K,h=>⟨[],[],h,by simp,by simp[Br]⟩
 |.tmp t::r,K,h=>by
  obtain⟨vs,us,h1,h2,h3⟩:=Mw hr r _ h;refine⟨_,a.tmps.getD t undef::us,h1,?_,by simp only[Br];exact⟨_,_,rfl,hr.env t,h3⟩⟩;simp only[sT,qH,UW,qW,qF,h2]
 |.cell p t::r,K,h=>by
  obtain⟨v,u,h1,h2,h3⟩:=ZZ (P:=P) hr h (hr.env p);obtain⟨vs,us,e1,e2,e3⟩:=Mw hr r _ h1;refine⟨_,u::us,e1,?_,by simp only[Br];exact⟨_,_,rfl,h3,e3⟩⟩;have hp:∃ad,a.tmps.getD p undef=.pointer (some ad):=by
   unfold Instr.loadAt at h2;generalize a.tmps.getD p undef=pv at h2;unfold Instr.sureAddr at h2;split at h2
   .exact⟨_,rfl⟩
   .simp at h2
  obtain⟨ad,had⟩:=hp;rw[had]at h2;simp only[Instr.loadAt,Instr.sureAddr,qH,qW,qF]at h2;have ha:(asAddr (a.tmps.getD p undef)).run P w=.ok ad w:=by rw[had];rfl
  simp only[sT,qH,UW,ha,qW,qF,h2,e2]
theorem BJ.intro {f:FuncId}{fn:Func}{c:Code}{args:List AV}{st:List Row}{R:AV->List Row->Prop}(hf:P.funcs[f]?=some fn)(hb:fn.body=some c)(hn:args.length<=fn.ntmps)
  (h:AW P st.length c (fa P st.length fn R) ⟨fn.ntmps,Pe args,st⟩):BJ P f args st R:=by
 intro F os w vs hs hl;refine calls_of_wp hf hb ?_;have hlen:=BV hl;have hrel:Rel F os ⟨fn.ntmps,Pe args,st⟩ { tmps:=vs.toArray++Array.replicate (fn.ntmps-vs.toArray.size) undef,defers:=[] } w:=by
  refine⟨hs.st,λt=>?_,by simp;omega,hs.rows,hs.inj,hs.Fp,rfl⟩;simp only[Pe,rN,qn];by_cases ht:t<args.length
  .rw[pG ht,rL];obtain⟨u,e1,e2⟩:=CH hl t _ (pG ht);rw[qz (by simp;omega)];simp only[rr,e1,rL];exact e2
  .rw[qB (by omega),Option.getD_none];simp[Ab]
 refine rp (h F os _ w hrel) ?_;rintro e a' w' ⟨s',F',os',hQ,hR,hE⟩;have fin:(∃s2,Wk st.length s' s2/\NF P s2 fn.results.toList λvs=>R (SP vs) s2.st)->a'.defers=[]/\∃v,(results fn a'.tmps).run P w'=.ok v w'/\
   ∃v2 r st' F' os',Ending.returned v=.returned v2/\R r st'/\Hh F' os' st' w'/\Ab F' w' os' r v2/\Ext F os w F' os' w' st.length:=λ⟨s2,hw,hres⟩=>by
  obtain⟨F2,os2,hR2,hE2⟩:=hw F' os' a' w' hR;obtain⟨rs,us,h1,h2,h3⟩:=Mw hR2 _ _ hres;refine⟨hR2.defers,_,UC a'.tmps h2,_,_,s2.st,F2,os2,rfl,h1,hR2.store,?_,hE.trans hE2⟩
  match rs,us,h3 with
  | [],us,h3=>simp only[Br]at h3;subst h3;simp[SP,Ab,Br,valOf]
  | [r],us,h3=>
   simp only[Br]at h3;obtain⟨u,_,rfl,h4,rfl⟩:=h3;exact h4
  |r::r'::rs,us,h3=>
   have h3':=h3;simp only[Br]at h3';obtain⟨u,_,rfl,_,u',us,rfl,_⟩:=h3';simp only[SP,Ab];exact⟨_,rfl,h3⟩
 cases e with
 |normal=>exact fin hQ
 |ret=>exact fin hQ
 |exit id=>exact hQ.elim
 |goto l=>exact hQ.elim
 |panic ch=>exact hQ.elim
 |outgrown=>exact hQ.elim
theorem Hb {t:Nat}(h:s.env t=.zc)(e:TypeId){size:Nat}(vA:0<size):Wk k s { s with env:=DQ s.env t (.own s.st.length 0 0),st:=s.st++[⟨0,e,size,[]⟩] }:=λF os a w hr=>by
 obtain⟨h1,h2,h3⟩:=hr.YK (k:=k) (e:=e) vA;refine⟨F,_,⟨h1.st,λj=>?_,h1.size,h1.rows,h1.inj,h1.Fp,h1.defers⟩,h2⟩;simp only[DQ];split
 .rename_i ej;subst ej;have:=hr.env j;rw[h]at this;simp only[Ab]at this⊢;obtain⟨ad,ead⟩:=this;exact⟨⟨⟨0,e,size,[]⟩,none,0,GG⟩,by rw[hr.len];exact J1 _ _,pM _,⟨_,_,_,ead⟩,λ_=>⟨pT _,.inl ⟨rfl,ad,ead⟩⟩⟩
 .exact h1.env j
def idx (l:List Nat)(x:Nat):Option Nat:=l.findIdx? (·==x)
def JK (sel:List Nat):AV->AV
 |.own id g n=>match idx sel id with
  |some j=>.own j g n
  |none=>.FY
 |.ptr id g i off=>match idx sel id with
  |some j=>.ptr j g i off
  |none=>.FY
 |.fn ..|.agg _|.DF _=>.FY
 |v=>v
def Ja (sel:List Nat)(x:AV):AV:=two (JK sel) x
theorem bX {sel:List Nat}{c:AV}{el s:Nat}{ys:List (List AV)}(h:Ja sel c=.dv el s ys):c=.dv el s ys:=by
 refine UA (X:=JK sel) (λc h=>?_) h;cases c<;>simp only[JK]at h<;>first|exact h|cases h|(split at h<;>cases h)
def Jk (sel:List Nat):AV->AV
 |.fn f cs=>.fn f (cs.map (Ja sel))
 |.agg cs=>.agg (cs.map (Ja sel))
 |.DF cs=>.DF (cs.map (Ja sel))
 |v=>Ja sel v
theorem iY {sel:List Nat}{os':List Own}(vQ :∀j id,idx sel id=some j->os'[j]?=os[id]?){x:AV}{v:Value}(h:Ab F w os x v):Ab F w os' (JK sel x) v:=by
 cases x with
 |own id g n=>
  simp only[JK];split
  .rename_i j hj;simp only[Ab]at h⊢;rw[vQ j id hj];exact h
  .simp[Ab]
 |ptr id g i off=>
  simp only[JK];split
  .rename_i j hj;simp only[Ab]at h⊢;rw[vQ j id hj];exact h
  .simp[Ab]
 |fn f cs=>simp[JK,Ab]
 |agg cs=>simp[JK,Ab]
 |DF cs=>simp[JK,Ab]
 |_=>simp only[JK,Ab]at h⊢<;>exact h
theorem Zq {sel:List Nat}{os':List Own}(vQ :∀j id,idx sel id=some j->os'[j]?=os[id]?){x:AV}{v:Value}(h:Ab F w os x v):Ab F w os' (Ja sel x) v:=
 ML (λ_ _ h=>iY vQ h) _ _ h
theorem Sg {sel:List Nat}{os':List Own}(vQ :∀j id,idx sel id=some j->os'[j]?=os[id]?){xs:List AV}{us:List Value}(h:Br F w os xs us):Br F w os' (xs.map (Ja sel)) us:=
 DZ (by simp[BV h]) λi x u hx hu=>by
  simp only[pC,pI]at hx;obtain⟨y,hy,rfl⟩:=hx;obtain⟨u',e1,e2⟩:=CH h i y hy;rw[hu]at e1;cases e1;exact Zq vQ e2
theorem jU {sel:List Nat}{os':List Own}(vQ :∀j id,idx sel id=some j->os'[j]?=os[id]?){x:AV}{v:Value}(h:Ab F w os x v):Ab F w os' (Jk sel x) v:=by
 cases x with
 |fn f cs=>simp only[Jk,Ab]at h⊢;obtain⟨us,e,hl⟩:=h;exact⟨us,e,Sg vQ hl⟩
 |agg cs=>simp only[Jk,Ab]at h⊢;obtain⟨us,e,hl⟩:=h;exact⟨us,e,Sg vQ hl⟩
 |DF cs=>simp only[Jk,Ab]at h⊢;obtain⟨us,e,hl⟩:=h;exact⟨us,e,Sg vQ hl⟩
 |_=>exact Zq vQ h
def stays (sel:List Nat):AV->Bool
 |.own id _ _|.ptr id _ _ _=>sel[id]?==some id
 |.fn ..|.agg _|.DF _=>false
 |_=>true
theorem eD {sel:List Nat}{os':List Own}(vQ :∀(j id:Nat),sel[j]?=some id->os'[j]?=os[id]?){x:AV}{v:Value}(hx:stays sel x=true)(h:Ab F w os x v):Ab F w os' x v:=by
 cases x with
 |own id g n=>
  simp only[stays,beq_iff_eq]at hx;simp only[Ab]at h⊢;rw[vQ _ _ hx];exact h
 |ptr id g i off=>
  simp only[stays,beq_iff_eq]at hx;simp only[Ab]at h⊢;rw[vQ _ _ hx];exact h
 |fn f cs=>simp[stays]at hx
 |agg cs=>simp[stays]at hx
 |DF cs=>simp[stays]at hx
 |_=>simp only[Ab]at h⊢<;>exact h
def CE (st:List Row)(sel:List Nat):List Row:=sel.filterMap (st[·]?)
theorem Wk.select (sel:List Nat)(hk :∀i,i<k->sel[i]?=some i)(vt:sel.Nodup)(uV :∀i∈sel,i<s.st.length)
  (vm :∀i∈sel,∀row,s.st[i]?=some row->∀x∈row.xs,∀c∈x,stays sel c=true):Wk k s ⟨s.n,λt=>Jk sel (s.env t),CE s.st sel⟩:=λF os a w hr=>by
 have hlen:=hr.len;have xf:∀(j id:Nat),sel[j]?=some id->(sel.filterMap (os[·]?))[j]?=os[id]?:=by
  have :∀(l:List Nat),(∀i∈l,i<os.length)->∀(j id:Nat),l[j]?=some id->(l.filterMap (os[·]?))[j]?=os[id]?:=λl=>by
   induction l with
   |nil=>intro _ j id h;simp at h
   |cons i l ih=>
    intro hl j id h;have hi:=hl i (by simp);rw[rC,pG hi];cases j with
    |zero=>simp only[pj,pD]at h;subst h;simp[pG hi]
    |succ j=>simp only[pz]at h⊢;exact ih (λx hx=>hl x (by simp[hx])) j id h
  exact this sel (λi hi=>by rw[<- hlen];exact uV i hi)
 have hos2:∀j id,idx sel id=some j->(sel.filterMap (os[·]?))[j]?=os[id]?:=λj id h=>by
  refine xf j id ?_;unfold idx at h;rw[rM]at h;obtain⟨hj,he,_⟩:=h;rw[pG hj];simpa using he
 have uF:∀(j:Nat) (o:Own),(sel.filterMap (os[·]?))[j]?=some o->∃id,sel[j]?=some id/\os[id]?=some o:=λj o h=>by
  have hl2:(sel.filterMap (os[·]?)).length=sel.length:=by
   have :∀(l:List Nat),(∀i∈l,i<os.length)->(l.filterMap (os[·]?)).length=l.length:=λl=>by
    induction l with
    |nil=>simp
    |cons i l ih=>intro hl;rw[rC,pG (hl i (by simp))];simp[ih (λx hx=>hl x (by simp[hx]))]
   exact this sel (λi hi=>by rw[<- hlen];exact uV i hi)
  have hj:j<sel.length:=by rw[<- hl2];exact (pB.1 h).1
  refine⟨sel[j],pG hj,?_⟩;rw[<- xf j _ (pG hj)];exact h
 refine⟨F,sel.filterMap (os[·]?),⟨?_,λt=>jU hos2 (hr.env t),hr.size,λj o ho=>?_,λi j oi oj b hi hj wK wL=>?_,hr.Fp,hr.defers⟩,⟨rfl,rfl,rfl,pM _,λ_ h=>h,λ_ _=>rfl,λb _ h1 h2=>⟨rfl,h1,λo ho=>?_⟩,λi o hi ho=>⟨o,by rw[xf i i (hk i hi)];exact ho,pM _,rfl,λ_=>⟨rfl,rfl,rfl⟩⟩⟩⟩
 .simp only[CE,<- hr.st,sj];congr 1;funext i;simp
 .obtain⟨id,xB,hoid⟩:=uF j o ho;have uA:=hr.rows id o hoid;refine⟨uA.pos,uA.lens,uA.none,λb hb=>?_,uA.mo,uA.deep⟩;obtain⟨h1,cur,h2,h3,h4,h5,h6⟩:=uA.some b hb;refine⟨h1,cur,h2,h3,h4,h5,λi x hx j' c hc=>?_⟩;obtain⟨u,e1,e2⟩:=h6 i x hx j' c hc;refine⟨u,e1,eD xf (vm id (oz xB) o.row ?_ x (oz hx) c (oz hc)) e2⟩;rw[<- hr.st,pC,hoid];rfl
 .obtain⟨id,xB,hoid⟩:=uF i oi hi;obtain⟨vI,hid',hoid'⟩:=uF j oj hj;have e:=hr.inj id vI oi oj b hoid hoid' wK wL;subst e;have xJ:=pB.1 xB;have hj':=pB.1 hid';obtain⟨hi1,hi2⟩:=xJ;obtain⟨zR,hj2⟩:=hj';have hp:=sF.1 vt;rcases ql i j with h|h|h
  .exact absurd (hi2.trans hj2.symm) (hp i j hi1 zR h)
  .exact h
  .exact absurd (hj2.trans hi2.symm) (hp j i zR hi1 h)
 .simp only[qh]at ho;obtain⟨i,_,hi⟩:=ho;exact h2 o (oz hi)
end Go.Abs
