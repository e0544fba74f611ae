import Derived.Test.YtgiajkaabnbieaaGreatAbsJ
set_option linter.all false
namespace Go.Abs
open Go
variable {P : Program} {F : Nat -> Prop} {os : List Own} {s : St} {a : Act} {w : World} {k : Nat}
def VL (args:List AV):Nat->AV:=λt=>args.getD t .FN
def OH (P:Program)(s:St):List ResultVar->(List AV->Prop)->Prop
 | [],K=>K []
 | .tmp t::r,K=>OH P s r λvs=>K (s.env t::vs)
 | .cell p t::r,K=>P4 P s.st t (s.env p) λv=>OH P s r λvs=>K (v::vs)
def YJ:List AV->AV
 | [v]=>v
 | vs=>.DX vs
def gS (P:Program)(k:Nat)(fn:Func)(R:AV->List Row->Prop):Exit->St->Prop
 | .normal,s|.ret,s=>∃s',Wk k s s'/\OH P s' fn.results.toList λvs=>R (YJ vs) s'.st
 | _,_=>False
def valOf:List Value->Value
 | [v]=>v
 | vs=>.tuple vs.toArray
def Sl (tmps:Array Value):ResultVar->Sem Value
 | .tmp t=>pure (tmps.getD t undef)
 | .cell p t=>do loadVar t (← asAddr (tmps.getD p undef))
theorem YQ {fn:Func}{vs:List Value}(tmps:Array Value)(h:(fn.results.toList.mapM (Sl tmps)).run P w=.ok vs w):
  (results fn tmps).run P w=.ok (valOf vs) w:=by
 have e:results fn tmps=(do let vs ← fn.results.mapM (Sl tmps);pure (if h:vs.size=1 then vs[0] else .tuple vs)):=rfl;rw[e,nA,Array.mapM_eq_mapM_toList,Sem.run_map,h];simp only[mw,nY];congr 1
 match vs with
 | []=>simp[valOf]
 | [v]=>simp[valOf]
 | v::v'::r=>simp[valOf]
theorem O4 (hr:Rel F os s a w):∀(l:List ResultVar) (K:List AV->Prop),OH P s l K->
  ∃vs us,K vs/\(l.mapM (Sl a.tmps)).run P w=.ok us w/\Ba F w os vs us
 | [],K,h=>⟨[],[],h,by simp,by simp[Ba]⟩
 | .tmp t::r,K,h=>by
  obtain⟨vs,us,h1,h2,h3⟩:=O4 hr r _ h;refine⟨_,a.tmps.getD t undef::us,h1,?_,by simp only[Ba];exact⟨_,_,rfl,hr.env t,h3⟩⟩;simp only[pK,nA,Sl,nY,mw,h2]
 | .cell p t::r,K,h=>by
  obtain⟨v,u,h1,h2,h3⟩:=XX (P:=P) hr h (hr.env p);obtain⟨vs,us,e1,e2,e3⟩:=O4 hr r _ h1;refine⟨_,u::us,e1,?_,by simp only[Ba];exact⟨_,_,rfl,h3,e3⟩⟩;have hp:∃ad,a.tmps.getD p undef=.pointer (some ad):=by
   unfold Instr.loadAt at h2;generalize a.tmps.getD p undef=pv at h2;unfold Instr.sureAddr at h2;split at h2
   ·exact⟨_,rfl⟩
   ·simp at h2
  obtain⟨ad,had⟩:=hp;rw[had]at h2;simp only[Instr.loadAt,Instr.sureAddr,nA,nY,mw]at h2;have ha:(asAddr (a.tmps.getD p undef)).run P w=.ok ad w:=by rw[had];rfl
  simp only[pK,nA,Sl,ha,nY,mw,h2,e2]
theorem AS.intro {f:FuncId}{fn:Func}{c:Code}{args:List AV}{st:List Row}{R:AV->List Row->Prop}(hf:P.funcs[f]?=some fn)(hb:fn.body=some c)(hn:args.length<=fn.ntmps)
  (h:AW P st.length c (gS P st.length fn R) ⟨fn.ntmps,VL args,st⟩):AS P f args st R:=by
 intro F os w vs hs hl;refine calls_of_wp hf hb ?_;have hlen:=BJ hl;have rT:Rel F os ⟨fn.ntmps,VL args,st⟩ { tmps:=vs.toArray++Array.replicate (fn.ntmps-vs.toArray.size) undef,defers:=[] } w:=by
  refine⟨hs.st,λt=>?_,by simp;omega,hs.rows,hs.inj,hs.F6,rfl⟩;simp only[VL,oz,nh];by_cases ht:t<args.length
  ·rw[mH ht,oK];obtain⟨u,e1,e2⟩:=CD hl t _ (mH ht);rw[oG (by simp;omega)];simp only[pN,e1,oK];exact e2
  ·rw[nH (by omega),Option.getD_none];simp[Ae]
 refine qH (h F os _ w rT) ?_;rintro e a' w' ⟨s',F',os',hQ,hR,hE⟩;have fin:(∃s2,Wk st.length s' s2/\OH P s2 fn.results.toList λvs=>R (YJ vs) s2.st)->a'.defers=[]/\∃v,(results fn a'.tmps).run P w'=.ok v w'/\
   ∃v2 r st' F' os',Ending.returned v=.returned v2/\R r st'/\GU F' os' st' w'/\Ae F' w' os' r v2/\Ext F os w F' os' w' st.length:=λ⟨s2,hw,zS⟩=>by
  obtain⟨F2,os2,hR2,xe⟩:=hw F' os' a' w' hR;obtain⟨rs,us,h1,h2,h3⟩:=O4 hR2 _ _ zS;refine⟨hR2.defers,_,YQ a'.tmps h2,_,_,s2.st,F2,os2,rfl,h1,hR2.store,?_,hE.trans xe⟩
  match rs,us,h3 with
  | [],us,h3=>simp only[Ba]at h3;subst h3;simp[YJ,Ae,Ba,valOf]
  | [r],us,h3=>
   simp only[Ba]at h3;obtain⟨u,_,rfl,h4,rfl⟩:=h3;exact h4
  | r::r'::rs,us,h3=>
   have h3':=h3;simp only[Ba]at h3';obtain⟨u,_,rfl,_,u',us,rfl,_⟩:=h3';simp only[YJ,Ae];exact⟨_,rfl,h3⟩
 cases e with
 | normal=>exact fin hQ
 | ret=>exact fin hQ
 | exit id=>exact hQ.elim
 | goto l=>exact hQ.elim
 | panic ch=>exact hQ.elim
 | outgrown=>exact hQ.elim
theorem FG {t:Nat}(h:s.env t=.zc)(e:TypeId){size:Nat}(ru:0<size):Wk k s { s with env:=FY s.env t (.own s.st.length 0 0),st:=s.st++[⟨0,e,size,[]⟩] }:=λF os a w hr=>by
 obtain⟨h1,h2,h3⟩:=hr.WC (k:=k) (e:=e) ru;refine⟨F,_,⟨h1.st,λj=>?_,h1.size,h1.rows,h1.inj,h1.F6,h1.defers⟩,h2⟩;simp only[FY];split
 ·rename_i ej;subst ej;have:=hr.env j;rw[h]at this;simp only[Ae]at this⊢;obtain⟨ad,ead⟩:=this;exact⟨⟨⟨0,e,size,[]⟩,none,0,Fj⟩,by rw[hr.len];exact Je _ _,mS _,⟨_,_,_,ead⟩,λ_=>⟨mV _,.inl ⟨rfl,ad,ead⟩⟩⟩
 ·exact h1.env j
def idx (l:List Nat)(x:Nat):Option Nat:=l.findIdx? (·==x)
def It (sel:List Nat):AV->AV
 | .own id g n=>match idx sel id with
  | some j=>.own j g n
  | none=>.FN
 | .ptr id g i off=>match idx sel id with
  | some j=>.ptr j g i off
  | none=>.FN
 | .fn ..|.agg _|.DX _=>.FN
 | v=>v
def Ku (sel:List Nat)(x:AV):AV:=two (It sel) x
theorem ZR {sel:List Nat}{c:AV}{el s:Nat}{ys:List (List AV)}(h:Ku sel c=.dv el s ys):c=.dv el s ys:=by
 refine VK (X:=It sel) (λc h=>?_) h;cases c<;>simp only[It]at h<;>first|exact h|cases h|(split at h<;>cases h)
def Ke (sel:List Nat):AV->AV
 | .fn f cs=>.fn f (cs.map (Ku sel))
 | .agg cs=>.agg (cs.map (Ku sel))
 | .DX cs=>.DX (cs.map (Ku sel))
 | v=>Ku sel v
theorem eG {sel:List Nat}{os':List Own}(rq :∀j id,idx sel id=some j->os'[j]?=os[id]?){x:AV}{v:Value}(h:Ae F w os x v):Ae F w os' (It sel x) v:=by
 cases x with
 | own id g n=>
  simp only[It];split
  ·rename_i j hj;simp only[Ae]at h⊢;rw[rq j id hj];exact h
  ·simp[Ae]
 | ptr id g i off=>
  simp only[It];split
  ·rename_i j hj;simp only[Ae]at h⊢;rw[rq j id hj];exact h
  ·simp[Ae]
 | fn f cs=>simp[It,Ae]
 | agg cs=>simp[It,Ae]
 | DX cs=>simp[It,Ae]
 | _=>simp only[It,Ae]at h⊢<;>exact h
theorem Xs {sel:List Nat}{os':List Own}(rq :∀j id,idx sel id=some j->os'[j]?=os[id]?){x:AV}{v:Value}(h:Ae F w os x v):Ae F w os' (Ku sel x) v:=
 NN (λ_ _ h=>eG rq h) _ _ h
theorem Rm {sel:List Nat}{os':List Own}(rq :∀j id,idx sel id=some j->os'[j]?=os[id]?){xs:List AV}{us:List Value}(h:Ba F w os xs us):Ba F w os' (xs.map (Ku sel)) us:=
 Ds (by simp[BJ h]) λi x u hx hu=>by
  simp only[mG,mK]at hx;obtain⟨y,hy,rfl⟩:=hx;obtain⟨u',e1,e2⟩:=CD h i y hy;rw[hu]at e1;cases e1;exact Xs rq e2
theorem fH {sel:List Nat}{os':List Own}(rq :∀j id,idx sel id=some j->os'[j]?=os[id]?){x:AV}{v:Value}(h:Ae F w os x v):Ae F w os' (Ke sel x) v:=by
 cases x with
 | fn f cs=>simp only[Ke,Ae]at h⊢;obtain⟨us,e,hl⟩:=h;exact⟨us,e,Rm rq hl⟩
 | agg cs=>simp only[Ke,Ae]at h⊢;obtain⟨us,e,hl⟩:=h;exact⟨us,e,Rm rq hl⟩
 | DX cs=>simp only[Ke,Ae]at h⊢;obtain⟨us,e,hl⟩:=h;exact⟨us,e,Rm rq hl⟩
 | _=>exact Xs rq h
def stays (sel:List Nat):AV->Bool
 | .own id _ _|.ptr id _ _ _=>sel[id]?==some id
 | .fn ..|.agg _|.DX _=>false
 | _=>true
theorem bX {sel:List Nat}{os':List Own}(rq :∀(j id:Nat),sel[j]?=some id->os'[j]?=os[id]?){x:AV}{v:Value}(hx:stays sel x=true)(h:Ae F w os x v):Ae F w os' x v:=by
 cases x with
 | own id g n=>
  simp only[stays,beq_iff_eq]at hx;simp only[Ae]at h⊢;rw[rq _ _ hx];exact h
 | ptr id g i off=>
  simp only[stays,beq_iff_eq]at hx;simp only[Ae]at h⊢;rw[rq _ _ hx];exact h
 | fn f cs=>simp[stays]at hx
 | agg cs=>simp[stays]at hx
 | DX cs=>simp[stays]at hx
 | _=>simp only[Ae]at h⊢<;>exact h
def Cr (st:List Row)(sel:List Nat):List Row:=sel.filterMap (st[·]?)
theorem Wk.select (sel:List Nat)(hk :∀i,i<k->sel[i]?=some i)(sy:sel.Nodup)(rJ :∀i∈sel,i<s.st.length)
  (sM :∀i∈sel,∀row,s.st[i]?=some row->∀x∈row.xs,∀c∈x,stays sel c=true):Wk k s ⟨s.n,λt=>Ke sel (s.env t),Cr s.st sel⟩:=λF os a w hr=>by
 have hlen:=hr.len;have te:∀(j id:Nat),sel[j]?=some id->(sel.filterMap (os[·]?))[j]?=os[id]?:=by
  have :∀(l:List Nat),(∀i∈l,i<os.length)->∀(j id:Nat),l[j]?=some id->(l.filterMap (os[·]?))[j]?=os[id]?:=λl=>by
   induction l with
   | nil=>intro _ j id h;simp at h
   | cons i l ih=>
    intro hl j id h;have hi:=hl i (by simp);rw[oM,mH hi];cases j with
    | zero=>simp only[me,mE]at h;subst h;simp[mH hi]
    | succ j=>simp only[mz]at h⊢;exact ih (λx hx=>hl x (by simp[hx])) j id h
  exact this sel (λi hi=>by rw[<- hlen];exact rJ i hi)
 have zT:∀j id,idx sel id=some j->(sel.filterMap (os[·]?))[j]?=os[id]?:=λj id h=>by
  refine te j id ?_;unfold idx at h;rw[oF]at h;obtain⟨hj,he,_⟩:=h;rw[mH hj];simpa using he
 have rD:∀(j:Nat) (o:Own),(sel.filterMap (os[·]?))[j]?=some o->∃id,sel[j]?=some id/\os[id]?=some o:=λj o h=>by
  have uK:(sel.filterMap (os[·]?)).length=sel.length:=by
   have :∀(l:List Nat),(∀i∈l,i<os.length)->(l.filterMap (os[·]?)).length=l.length:=λl=>by
    induction l with
    | nil=>simp
    | cons i l ih=>intro hl;rw[oM,mH (hl i (by simp))];simp[ih (λx hx=>hl x (by simp[hx]))]
   exact this sel (λi hi=>by rw[<- hlen];exact rJ i hi)
  have hj:j<sel.length:=by rw[<- uK];exact (mC.1 h).1
  refine⟨sel[j],mH hj,?_⟩;rw[<- te j _ (mH hj)];exact h
 refine⟨F,sel.filterMap (os[·]?),⟨?_,λt=>fH zT (hr.env t),hr.size,λj o ho=>?_,λi j oi oj b hi hj sS sj=>?_,hr.F6,hr.defers⟩,⟨rfl,rfl,rfl,mS _,λ_ h=>h,λ_ _=>rfl,λb _ h1 h2=>⟨rfl,h1,λo ho=>?_⟩,λi o hi ho=>⟨o,by rw[te i i (hk i hi)];exact ho,mS _,rfl,λ_=>⟨rfl,rfl,rfl⟩⟩⟩⟩
 ·simp only[Cr,<- hr.st,pa];congr 1;funext i;simp
 ·obtain⟨id,tv,hoid⟩:=rD j o ho;have qu:=hr.rows id o hoid;refine⟨qu.pos,qu.lens,qu.none,λb hb=>?_,qu.mo,qu.deep⟩;obtain⟨h1,cur,h2,h3,h4,h5,h6⟩:=qu.some b hb;refine⟨h1,cur,h2,h3,h4,h5,λi x hx j' c hc=>?_⟩;obtain⟨u,e1,e2⟩:=h6 i x hx j' c hc;refine⟨u,e1,bX te (sM id (mB tv) o.row ?_ x (mB hx) c (mB hc)) e2⟩;rw[<- hr.st,mG,hoid];rfl
 ·obtain⟨id,tv,hoid⟩:=rD i oi hi;obtain⟨sH,hid',hoid'⟩:=rD j oj hj;have e:=hr.inj id sH oi oj b hoid hoid' sS sj;subst e;have tO:=mC.1 tv;have xf:=mC.1 hid';obtain⟨xM,vv⟩:=tO;obtain⟨vS,vA⟩:=xf;have hp:=pD.1 sy;rcases ng i j with h|h|h
  ·exact absurd (vv.trans vA.symm) (hp i j xM vS h)
  ·exact h
  ·exact absurd (vA.trans vv.symm) (hp j i vS xM h)
 ·simp only[nr]at ho;obtain⟨i,_,hi⟩:=ho;exact h2 o (mB hi)
end Go.Abs
