import Derived.Test.YtfkncfjpobjbjaaAbsJ
set_option linter.all false
namespace Go.Abs
open Go
variable {P : Program} {F : Nat -> Prop} {os : List Own} {s : St} {a : Act} {w : World} {k : Nat}
def Jq (args:List AV):Nat->AV:=λt=>args.getD t .Bk
def FO (P:Program)(s:St):List ResultVar->(List AV->Prop)->Prop
 | [],K=>K []
 | .tmp t::r,K=>FO P s r λvs=>K (s.env t::vs)
 | .cell p t::r,K=>Ga P s.st t (s.env p) λv=>FO P s r λvs=>K (v::vs)
def Ky:List AV->AV
 | [v]=>v
 | vs=>.BK vs
def QM (P:Program)(k:Nat)(fn:Func)(R:AV->List Row->Prop):Exit->St->Prop
 | .normal,s|.ret,s=>∃s',Wk k s s'/\FO P s' fn.results.toList λvs=>R (Ky vs) s'.st
 | _,_=>False
def valOf:List Value->Value
 | [v]=>v
 | vs=>.tuple vs.toArray
def Hn (tmps:Array Value):ResultVar->Sem Value
 | .tmp t=>pure (tmps.getD t undef)
 | .cell p t=>do loadVar t (← asAddr (tmps.getD p undef))
theorem LI {fn:Func}{vs:List Value}(tmps:Array Value)(h:(fn.results.toList.mapM (Hn tmps)).run P w=.ok vs w):
  (results fn tmps).run P w=.ok (valOf vs) w:=by
 have e:results fn tmps=(do let vs ← fn.results.mapM (Hn tmps);pure (if h:vs.size=1 then vs[0] else .tuple vs)):=rfl;rw[e,SQ,Array.mapM_eq_mapM_toList,Sem.run_map,h];simp only[SD,SU];congr 1
 match vs with
 | []=>simp[valOf]
 | [v]=>simp[valOf]
 | v::v'::r=>simp[valOf]
theorem Fl (hr:Rel F os s a w):∀(l:List ResultVar) (K:List AV->Prop),FO P s l K->
  ∃vs us,K vs/\(l.mapM (Hn a.tmps)).run P w=.ok us w/\Ad F w os vs us
 | [],K,h=>⟨[],[],h,by simp,by simp[Ad]⟩
 | .tmp t::r,K,h=>by
  obtain⟨vs,us,h1,h2,h3⟩:=Fl hr r _ h;refine⟨_,a.tmps.getD t undef::us,h1,?_,by simp only[Ad];exact⟨_,_,rfl,hr.env t,h3⟩⟩;simp only[TW,SQ,Hn,SU,SD,h2]
 | .cell p t::r,K,h=>by
  obtain⟨v,u,h1,h2,h3⟩:=Kk (P:=P) hr h (hr.env p);obtain⟨vs,us,e1,e2,e3⟩:=Fl hr r _ h1;refine⟨_,u::us,e1,?_,by simp only[Ad];exact⟨_,_,rfl,h3,e3⟩⟩;have hp:∃ad,a.tmps.getD p undef=.pointer (some ad):=by
   unfold Instr.loadAt at h2;generalize a.tmps.getD p undef=pv at h2;unfold Instr.sureAddr at h2;split at h2
   ·exact⟨_,rfl⟩
   ·simp at h2
  obtain⟨ad,had⟩:=hp;rw[had]at h2;simp only[Instr.loadAt,Instr.sureAddr,SQ,SU,SD]at h2;have ha:(asAddr (a.tmps.getD p undef)).run P w=.ok ad w:=by rw[had];rfl
  simp only[TW,SQ,Hn,ha,SU,SD,h2,e2]
theorem AY.intro {f:FuncId}{fn:Func}{c:Code}{args:List AV}{st:List Row}{R:AV->List Row->Prop}(hf:P.funcs[f]?=some fn)(hb:fn.body=some c)(hn:args.length<=fn.ntmps)
  (h:AW P st.length c (QM P st.length fn R) ⟨fn.ntmps,Jq args,st⟩):AY P f args st R:=by
 intro F os w vs hs hl;refine calls_of_wp hf hb ?_;have hlen:=Aa hl;have Ug:Rel F os ⟨fn.ntmps,Jq args,st⟩ { tmps:=vs.toArray++Array.replicate (fn.ntmps-vs.toArray.size) undef,defers:=[] } w:=by
  refine⟨hs.st,λt=>?_,by simp;omega,hs.rows,hs.inj,hs.CL,rfl⟩;simp only[Jq,TH,Sk];by_cases ht:t<args.length
  ·rw[Rp ht,Sp];obtain⟨u,e1,e2⟩:=Aj hl t _ (Rp ht);rw[S4 (by simp;omega)];simp only[List.getElem?_toArray,e1,Sp];exact e2
  ·rw[SE (by omega),Tv];simp[AF]
 refine wp_mono (h F os _ w Ug) ?_;rintro e a' w' ⟨s',F',os',hQ,hR,hE⟩;have fin:(∃s2,Wk st.length s' s2/\FO P s2 fn.results.toList λvs=>R (Ky vs) s2.st)->a'.defers=[]/\∃v,(results fn a'.tmps).run P w'=.ok v w'/\
   ∃v2 r st' F' os',Ending.returned v=.returned v2/\R r st'/\B9 F' os' st' w'/\AF F' w' os' r v2/\Ext F os w F' os' w' st.length:=λ⟨s2,hw,hres⟩=>by
  obtain⟨F2,os2,hR2,hE2⟩:=hw F' os' a' w' hR;obtain⟨rs,us,h1,h2,h3⟩:=Fl hR2 _ _ hres;refine⟨hR2.defers,_,LI a'.tmps h2,_,_,s2.st,F2,os2,rfl,h1,hR2.store,?_,hE.trans hE2⟩
  match rs,us,h3 with
  | [],us,h3=>simp only[Ad]at h3;subst h3;simp[Ky,AF,Ad,valOf]
  | [r],us,h3=>
   simp only[Ad]at h3;obtain⟨u,_,rfl,h4,rfl⟩:=h3;exact h4
  | r::r'::rs,us,h3=>
   have fM:=h3;simp only[Ad]at fM;obtain⟨u,_,rfl,_,u',us,rfl,_⟩:=fM;simp only[Ky,AF];exact⟨_,rfl,h3⟩
 cases e with
 | normal=>exact fin hQ
 | ret=>exact fin hQ
 | exit id=>exact hQ.elim
 | goto l=>exact hQ.elim
 | panic ch=>exact hQ.elim
 | outgrown=>exact hQ.elim
theorem Cl {t:Nat}(h:s.env t=.zc)(e:TypeId){size:Nat}(Ue:0<size):Wk k s { s with env:=CD s.env t (.own s.st.length 0 0),st:=s.st++[⟨0,e,size,[]⟩] }:=λF os a w hr=>by
 obtain⟨h1,h2,h3⟩:=hr.JB (k:=k) (e:=e) Ue;refine⟨F,_,⟨h1.st,λj=>?_,h1.size,h1.rows,h1.inj,h1.CL,h1.defers⟩,h2⟩;simp only[CD];split
 ·rename_i ej;subst ej;have:=hr.env j;rw[h]at this;simp only[AF]at this⊢;obtain⟨ad,ead⟩:=this;exact⟨⟨⟨0,e,size,[]⟩,none,0,Cg⟩,by rw[hr.len];exact Dv _ _,Rz _,⟨_,_,_,ead⟩,λ_=>⟨R5 _,.inl ⟨rfl,rfl,ad,ead⟩⟩⟩
 ·exact h1.env j
def idx (l:List Nat)(x:Nat):Option Nat:=l.findIdx? (·==x)
def Cs (AP:List Nat):AV->AV
 | .own id g n=>match idx AP id with
  | some j=>.own j g n
  | none=>.Bk
 | .ptr id g i off=>match idx AP id with
  | some j=>.ptr j g i off
  | none=>.Bk
 | .fn ..|.agg _|.BK _=>.Bk
 | v=>v
def Dl (AP:List Nat)(x:AV):AV:=two (Cs AP) x
theorem L5 {AP:List Nat}{c:AV}{el s:Nat}{ys:List (List AV)}(h:Dl AP c=.dv el s ys):c=.dv el s ys:=by
 refine LZ (X:=Cs AP) (λc h=>?_) h;cases c<;>simp only[Cs]at h<;>first|exact h|cases h|(split at h<;>cases h)
def Ez (AP:List Nat):AV->AV
 | .fn f cs=>.fn f (cs.map (Dl AP))
 | .agg cs=>.agg (cs.map (Dl AP))
 | .BK cs=>.BK (cs.map (Dl AP))
 | v=>Dl AP v
theorem N1 {AP:List Nat}{os':List Own}(Ud :∀j id,idx AP id=some j->os'[j]?=os[id]?){x:AV}{v:Value}(h:AF F w os x v):AF F w os' (Cs AP x) v:=by
 cases x with
 | own id g n=>
  simp only[Cs];split
  ·rename_i j hj;simp only[AF]at h⊢;rw[Ud j id hj];exact h
  ·simp[AF]
 | ptr id g i off=>
  simp only[Cs];split
  ·rename_i j hj;simp only[AF]at h⊢;rw[Ud j id hj];exact h
  ·simp[AF]
 | fn f cs=>simp[Cs,AF]
 | agg cs=>simp[Cs,AF]
 | BK cs=>simp[Cs,AF]
 | _=>simp only[Cs,AF]at h⊢<;>exact h
theorem KY {AP:List Nat}{os':List Own}(Ud :∀j id,idx AP id=some j->os'[j]?=os[id]?){x:AV}{v:Value}(h:AF F w os x v):AF F w os' (Dl AP x) v:=
 FI (λ_ _ h=>N1 Ud h) _ _ h
theorem HA {AP:List Nat}{os':List Own}(Ud :∀j id,idx AP id=some j->os'[j]?=os[id]?){xs:List AV}{us:List Value}(h:Ad F w os xs us):Ad F w os' (xs.map (Dl AP)) us:=
 BQ (by simp[Aa h]) λi x u hx hu=>by
  simp only[Ro,Rr]at hx;obtain⟨y,hy,rfl⟩:=hx;obtain⟨u',e1,e2⟩:=Aj h i y hy;rw[hu]at e1;cases e1;exact KY Ud e2
theorem PT {AP:List Nat}{os':List Own}(Ud :∀j id,idx AP id=some j->os'[j]?=os[id]?){x:AV}{v:Value}(h:AF F w os x v):AF F w os' (Ez AP x) v:=by
 cases x with
 | fn f cs=>simp only[Ez,AF]at h⊢;obtain⟨us,e,hl⟩:=h;exact⟨us,e,HA Ud hl⟩
 | agg cs=>simp only[Ez,AF]at h⊢;obtain⟨us,e,hl⟩:=h;exact⟨us,e,HA Ud hl⟩
 | BK cs=>simp only[Ez,AF]at h⊢;obtain⟨us,e,hl⟩:=h;exact⟨us,e,HA Ud hl⟩
 | _=>exact KY Ud h
def stays (AP:List Nat):AV->Bool
 | .own id _ _|.ptr id _ _ _=>AP[id]?==some id
 | .fn ..|.agg _|.BK _=>false
 | _=>true
theorem Mn {AP:List Nat}{os':List Own}(Ud :∀(j id:Nat),AP[j]?=some id->os'[j]?=os[id]?){x:AV}{v:Value}(hx:stays AP x=true)(h:AF F w os x v):AF F w os' x v:=by
 cases x with
 | own id g n=>
  simp only[stays,beq_iff_eq]at hx;simp only[AF]at h⊢;rw[Ud _ _ hx];exact h
 | ptr id g i off=>
  simp only[stays,beq_iff_eq]at hx;simp only[AF]at h⊢;rw[Ud _ _ hx];exact h
 | fn f cs=>simp[stays]at hx
 | agg cs=>simp[stays]at hx
 | BK cs=>simp[stays]at hx
 | _=>simp only[AF]at h⊢<;>exact h
def BL (st:List Row)(AP:List Nat):List Row:=AP.filterMap (st[·]?)
theorem Wk.select (AP:List Nat)(hk :∀i,i<k->AP[i]?=some i)(VF:AP.Nodup)(T9 :∀i∈AP,i<s.st.length)
  (Us :∀i∈AP,∀row,s.st[i]?=some row->∀x∈row.xs,∀c∈x,stays AP c=true):Wk k s ⟨s.n,λt=>Ez AP (s.env t),BL s.st AP⟩:=λF os a w hr=>by
 have hlen:=hr.len;have Vn:∀(j id:Nat),AP[j]?=some id->(AP.filterMap (os[·]?))[j]?=os[id]?:=by
  have :∀(l:List Nat),(∀i∈l,i<os.length)->∀(j id:Nat),l[j]?=some id->(l.filterMap (os[·]?))[j]?=os[id]?:=λl=>by
   induction l with
   | nil=>intro _ j id h;simp at h
   | cons i l ih=>
    intro hl j id h;have hi:=hl i (by simp);rw[Sz,Rp hi];cases j with
    | zero=>simp only[R2,Rn]at h;subst h;simp[Rp hi]
    | succ j=>simp only[SG]at h⊢;exact ih (λx hx=>hl x (by simp[hx])) j id h
  exact this AP (λi hi=>by rw[<- hlen];exact T9 i hi)
 have Zd:∀j id,idx AP id=some j->(AP.filterMap (os[·]?))[j]?=os[id]?:=λj id h=>by
  refine Vn j id ?_;unfold idx at h;rw[Sl]at h;obtain⟨hj,he,_⟩:=h;rw[Rp hj];simpa using he
 have T5:∀(j:Nat) (o:Own),(AP.filterMap (os[·]?))[j]?=some o->∃id,AP[j]?=some id/\os[id]?=some o:=λj o h=>by
  have ZF:(AP.filterMap (os[·]?)).length=AP.length:=by
   have :∀(l:List Nat),(∀i∈l,i<os.length)->(l.filterMap (os[·]?)).length=l.length:=λl=>by
    induction l with
    | nil=>simp
    | cons i l ih=>intro hl;rw[Sz,Rp (hl i (by simp))];simp[ih (λx hx=>hl x (by simp[hx]))]
   exact this AP (λi hi=>by rw[<- hlen];exact T9 i hi)
  have hj:j<AP.length:=by rw[<- ZF];exact (Rm.1 h).1
  refine⟨AP[j],Rp hj,?_⟩;rw[<- Vn j _ (Rp hj)];exact h
 refine⟨F,AP.filterMap (os[·]?),⟨?_,λt=>PT Zd (hr.env t),hr.size,λj o ho=>?_,λi j oi oj b hi hj V2 V3=>?_,hr.CL,hr.defers⟩,⟨rfl,rfl,rfl,Rz _,λ_ h=>h,λ_ _=>rfl,λb _ h1 h2=>⟨rfl,h1,λo ho=>?_⟩,λi o hi ho=>⟨o,by rw[Vn i i (hk i hi)];exact ho,Rz _,rfl,λ_=>⟨rfl,rfl,rfl⟩⟩⟩⟩
 ·simp only[BL,<- hr.st,Th];congr 1;funext i;simp
 ·obtain⟨id,WE,hoid⟩:=T5 j o ho;have T2:=hr.rows id o hoid;refine⟨T2.pos,T2.lens,T2.none,λb hb=>?_,T2.mo,T2.deep⟩;obtain⟨h1,cur,h2,h3,h4,h5,h6⟩:=T2.some b hb;refine⟨h1,cur,h2,h3,h4,h5,λi x hx j' c hc=>?_⟩;obtain⟨u,e1,e2⟩:=h6 i x hx j' c hc;refine⟨u,e1,Mn Vn (Us id (Rk WE) o.row ?_ x (Rk hx) c (Rk hc)) e2⟩;rw[<- hr.st,Ro,hoid];rfl
 ·obtain⟨id,WE,hoid⟩:=T5 i oi hi;obtain⟨Uv,hid',hoid'⟩:=T5 j oj hj;have e:=hr.inj id Uv oi oj b hoid hoid' V2 V3;subst e;have Wm:=Rm.1 WE;have gj:=Rm.1 hid';obtain⟨Yb,Xr⟩:=Wm;obtain⟨Wx,XH⟩:=gj;have hp:=TM.1 VF;rcases SW i j with h|h|h
  ·exact absurd (Xr.trans XH.symm) (hp i j Yb Wx h)
  ·exact h
  ·exact absurd (XH.trans Xr.symm) (hp j i Wx Yb h)
 ·simp only[So]at ho;obtain⟨i,_,hi⟩:=ho;exact h2 o (Rk hi)
end Go.Abs
