import Derived.Test.YtfkncfjpobjbjaaAbsJ
set_option linter.all false
namespace Go.Abs
open Go
variable {P : Program} {F : Nat -> Prop} {os : List Own} {s : St} {a : Act} {w : World} {k : Nat}
def JF (args:List AV):Nat->AV:=λt=>args.getD t .Bl
def FU (P:Program)(s:St):List ResultVar->(List AV->Prop)->Prop
 | [],K=>K []
 | .tmp t::r,K=>FU P s r λvs=>K (s.env t::vs)
 | .cell p t::r,K=>GU P s.st t (s.env p) λv=>FU P s r λvs=>K (v::vs)
def Lb:List AV->AV
 | [v]=>v
 | vs=>.BB vs
def QL (P:Program)(k:Nat)(fn:Func)(R:AV->List Row->Prop):Exit->St->Prop
 | .normal,s|.ret,s=>∃s',Wk k s s'/\FU P s' fn.results.toList λvs=>R (Lb vs) s'.st
 | _,_=>False
def valOf:List Value->Value
 | [v]=>v
 | vs=>.tuple vs.toArray
def Hq (tmps:Array Value):ResultVar->Sem Value
 | .tmp t=>pure (tmps.getD t undef)
 | .cell p t=>do loadVar t (← asAddr (tmps.getD p undef))
theorem Ly {fn:Func}{vs:List Value}(tmps:Array Value)(h:(fn.results.toList.mapM (Hq tmps)).run P w=.ok vs w):
  (results fn tmps).run P w=.ok (valOf vs) w:=by
 have e:results fn tmps=(do let vs ← fn.results.mapM (Hq tmps);pure (if h:vs.size=1 then vs[0] else .tuple vs)):=rfl;rw[e,SW,Array.mapM_eq_mapM_toList,Sem.run_map,h];simp only[SH,SY];congr 1
 match vs with
 | []=>simp[valOf]
 | [v]=>simp[valOf]
 | v::v'::r=>simp[valOf]
theorem Fj (hr:Rel F os s a w):∀(l:List ResultVar) (K:List AV->Prop),FU P s l K->
  ∃vs us,K vs/\(l.mapM (Hq a.tmps)).run P w=.ok us w/\Ad F w os vs us
 | [],K,h=>⟨[],[],h,by simp,by simp[Ad]⟩
 | .tmp t::r,K,h=>by
  obtain⟨vs,us,h1,h2,h3⟩:=Fj hr r _ h;refine⟨_,a.tmps.getD t undef::us,h1,?_,by simp only[Ad];exact⟨_,_,rfl,hr.env t,h3⟩⟩;simp only[Ta,SW,Hq,SY,SH,h2]
 | .cell p t::r,K,h=>by
  obtain⟨v,u,h1,h2,h3⟩:=Kx (P:=P) hr h (hr.env p);obtain⟨vs,us,e1,e2,e3⟩:=Fj hr r _ h1;refine⟨_,u::us,e1,?_,by simp only[Ad];exact⟨_,_,rfl,h3,e3⟩⟩;have hp:∃ad,a.tmps.getD p undef=.pointer (some ad):=by
   unfold Instr.loadAt at h2;generalize a.tmps.getD p undef=pv at h2;unfold Instr.sureAddr at h2;split at h2
   ·exact⟨_,rfl⟩
   ·simp at h2
  obtain⟨ad,had⟩:=hp;rw[had]at h2;simp only[Instr.loadAt,Instr.sureAddr,SW,SY,SH]at h2;have ha:(asAddr (a.tmps.getD p undef)).run P w=.ok ad w:=by rw[had];rfl
  simp only[Ta,SW,Hq,ha,SY,SH,h2,e2]
theorem AY.intro {f:FuncId}{fn:Func}{c:Code}{args:List AV}{st:List Row}{R:AV->List Row->Prop}(hf:P.funcs[f]?=some fn)(hb:fn.body=some c)(hn:args.length<=fn.ntmps)
  (h:AW P st.length c (QL P st.length fn R) ⟨fn.ntmps,JF args,st⟩):AY P f args st R:=by
 intro F os w vs hs hl;refine calls_of_wp hf hb ?_;have hlen:=Ab hl;have Uk:Rel F os ⟨fn.ntmps,JF args,st⟩ { tmps:=vs.toArray++Array.replicate (fn.ntmps-vs.toArray.size) undef,defers:=[] } w:=by
  refine⟨hs.st,λt=>?_,by simp;omega,hs.rows,hs.inj,hs.CL,rfl⟩;simp only[JF,TL,So];by_cases ht:t<args.length
  ·rw[Rt ht,Sv];obtain⟨u,e1,e2⟩:=Al hl t _ (Rt ht);rw[S8 (by simp;omega)];simp only[List.getElem?_toArray,e1,Sv];exact e2
  ·rw[SI (by omega),Tz];simp[AF]
 refine wp_mono (h F os _ w Uk) ?_;rintro e a' w' ⟨s',F',os',hQ,hR,hE⟩;have fin:(∃s2,Wk st.length s' s2/\FU P s2 fn.results.toList λvs=>R (Lb vs) s2.st)->a'.defers=[]/\∃v,(results fn a'.tmps).run P w'=.ok v w'/\
   ∃v2 r st' F' os',Ending.returned v=.returned v2/\R r st'/\CA F' os' st' w'/\AF F' w' os' r v2/\Ext F os w F' os' w' st.length:=λ⟨s2,hw,hres⟩=>by
  obtain⟨F2,os2,hR2,hE2⟩:=hw F' os' a' w' hR;obtain⟨rs,us,h1,h2,h3⟩:=Fj hR2 _ _ hres;refine⟨hR2.defers,_,Ly a'.tmps h2,_,_,s2.st,F2,os2,rfl,h1,hR2.store,?_,hE.trans hE2⟩
  match rs,us,h3 with
  | [],us,h3=>simp only[Ad]at h3;subst h3;simp[Lb,AF,Ad,valOf]
  | [r],us,h3=>
   simp only[Ad]at h3;obtain⟨u,_,rfl,h4,rfl⟩:=h3;exact h4
  | r::r'::rs,us,h3=>
   have fR:=h3;simp only[Ad]at fR;obtain⟨u,_,rfl,_,u',us,rfl,_⟩:=fR;simp only[Lb,AF];exact⟨_,rfl,h3⟩
 cases e with
 | normal=>exact fin hQ
 | ret=>exact fin hQ
 | exit id=>exact hQ.elim
 | goto l=>exact hQ.elim
 | panic ch=>exact hQ.elim
 | outgrown=>exact hQ.elim
theorem Co {t:Nat}(h:s.env t=.zc)(e:TypeId){size:Nat}(Ui:0<size):Wk k s { s with env:=CE s.env t (.own s.st.length 0 0),st:=s.st++[⟨0,e,size,[]⟩] }:=λF os a w hr=>by
 obtain⟨h1,h2,h3⟩:=hr.Jc (k:=k) (e:=e) Ui;refine⟨F,_,⟨h1.st,λj=>?_,h1.size,h1.rows,h1.inj,h1.CL,h1.defers⟩,h2⟩;simp only[CE];split
 ·rename_i ej;subst ej;have:=hr.env j;rw[h]at this;simp only[AF]at this⊢;obtain⟨ad,ead⟩:=this;exact⟨⟨⟨0,e,size,[]⟩,none,0,Cl⟩,by rw[hr.len];exact Ds _ _,R3 _,⟨_,_,_,ead⟩,λ_=>⟨SA _,.inl ⟨rfl,rfl,ad,ead⟩⟩⟩
 ·exact h1.env j
def idx (l:List Nat)(x:Nat):Option Nat:=l.findIdx? (·==x)
def C2 (AP:List Nat):AV->AV
 | .own id g n=>match idx AP id with
  | some j=>.own j g n
  | none=>.Bl
 | .ptr id g i off=>match idx AP id with
  | some j=>.ptr j g i off
  | none=>.Bl
 | .fn ..|.agg _|.BB _=>.Bl
 | v=>v
def Dm (AP:List Nat)(x:AV):AV:=two (C2 AP) x
theorem L1 {AP:List Nat}{c:AV}{el s:Nat}{ys:List (List AV)}(h:Dm AP c=.dv el s ys):c=.dv el s ys:=by
 refine Lk (X:=C2 AP) (λc h=>?_) h;cases c<;>simp only[C2]at h<;>first|exact h|cases h|(split at h<;>cases h)
def E0 (AP:List Nat):AV->AV
 | .fn f cs=>.fn f (cs.map (Dm AP))
 | .agg cs=>.agg (cs.map (Dm AP))
 | .BB cs=>.BB (cs.map (Dm AP))
 | v=>Dm AP v
theorem OF {AP:List Nat}{os':List Own}(Uh :∀j id,idx AP id=some j->os'[j]?=os[id]?){x:AV}{v:Value}(h:AF F w os x v):AF F w os' (C2 AP x) v:=by
 cases x with
 | own id g n=>
  simp only[C2];split
  ·rename_i j hj;simp only[AF]at h⊢;rw[Uh j id hj];exact h
  ·simp[AF]
 | ptr id g i off=>
  simp only[C2];split
  ·rename_i j hj;simp only[AF]at h⊢;rw[Uh j id hj];exact h
  ·simp[AF]
 | fn f cs=>simp[C2,AF]
 | agg cs=>simp[C2,AF]
 | BB cs=>simp[C2,AF]
 | _=>simp only[C2,AF]at h⊢<;>exact h
theorem Km {AP:List Nat}{os':List Own}(Uh :∀j id,idx AP id=some j->os'[j]?=os[id]?){x:AV}{v:Value}(h:AF F w os x v):AF F w os' (Dm AP x) v:=
 FL (λ_ _ h=>OF Uh h) _ _ h
theorem Hc {AP:List Nat}{os':List Own}(Uh :∀j id,idx AP id=some j->os'[j]?=os[id]?){xs:List AV}{us:List Value}(h:Ad F w os xs us):Ad F w os' (xs.map (Dm AP)) us:=
 BP (by simp[Ab h]) λi x u hx hu=>by
  simp only[Rs,Rv]at hx;obtain⟨y,hy,rfl⟩:=hx;obtain⟨u',e1,e2⟩:=Al h i y hy;rw[hu]at e1;cases e1;exact Km Uh e2
theorem Oc {AP:List Nat}{os':List Own}(Uh :∀j id,idx AP id=some j->os'[j]?=os[id]?){x:AV}{v:Value}(h:AF F w os x v):AF F w os' (E0 AP x) v:=by
 cases x with
 | fn f cs=>simp only[E0,AF]at h⊢;obtain⟨us,e,hl⟩:=h;exact⟨us,e,Hc Uh hl⟩
 | agg cs=>simp only[E0,AF]at h⊢;obtain⟨us,e,hl⟩:=h;exact⟨us,e,Hc Uh hl⟩
 | BB cs=>simp only[E0,AF]at h⊢;obtain⟨us,e,hl⟩:=h;exact⟨us,e,Hc Uh hl⟩
 | _=>exact Km Uh h
def stays (AP:List Nat):AV->Bool
 | .own id _ _|.ptr id _ _ _=>AP[id]?==some id
 | .fn ..|.agg _|.BB _=>false
 | _=>true
theorem ND {AP:List Nat}{os':List Own}(Uh :∀(j id:Nat),AP[j]?=some id->os'[j]?=os[id]?){x:AV}{v:Value}(hx:stays AP x=true)(h:AF F w os x v):AF F w os' x v:=by
 cases x with
 | own id g n=>
  simp only[stays,beq_iff_eq]at hx;simp only[AF]at h⊢;rw[Uh _ _ hx];exact h
 | ptr id g i off=>
  simp only[stays,beq_iff_eq]at hx;simp only[AF]at h⊢;rw[Uh _ _ hx];exact h
 | fn f cs=>simp[stays]at hx
 | agg cs=>simp[stays]at hx
 | BB cs=>simp[stays]at hx
 | _=>simp only[AF]at h⊢<;>exact h
def BM (st:List Row)(AP:List Nat):List Row:=AP.filterMap (st[·]?)
theorem Wk.select (AP:List Nat)(hk :∀i,i<k->AP[i]?=some i)(VM:AP.Nodup)(UM :∀i∈AP,i<s.st.length)
  (Ux :∀i∈AP,∀row,s.st[i]?=some row->∀x∈row.xs,∀c∈x,stays AP c=true):Wk k s ⟨s.n,λt=>E0 AP (s.env t),BM s.st AP⟩:=λF os a w hr=>by
 have hlen:=hr.len;have Vt:∀(j id:Nat),AP[j]?=some id->(AP.filterMap (os[·]?))[j]?=os[id]?:=by
  have :∀(l:List Nat),(∀i∈l,i<os.length)->∀(j id:Nat),l[j]?=some id->(l.filterMap (os[·]?))[j]?=os[id]?:=λl=>by
   induction l with
   | nil=>intro _ j id h;simp at h
   | cons i l ih=>
    intro hl j id h;have hi:=hl i (by simp);rw[S6,Rt hi];cases j with
    | zero=>simp only[R6,Rr]at h;subst h;simp[Rt hi]
    | succ j=>simp only[SK]at h⊢;exact ih (λx hx=>hl x (by simp[hx])) j id h
  exact this AP (λi hi=>by rw[<- hlen];exact UM i hi)
 have Zg:∀j id,idx AP id=some j->(AP.filterMap (os[·]?))[j]?=os[id]?:=λj id h=>by
  refine Vt j id ?_;unfold idx at h;rw[Sp]at h;obtain⟨hj,he,_⟩:=h;rw[Rt hj];simpa using he
 have T9:∀(j:Nat) (o:Own),(AP.filterMap (os[·]?))[j]?=some o->∃id,AP[j]?=some id/\os[id]?=some o:=λj o h=>by
  have ZI:(AP.filterMap (os[·]?)).length=AP.length:=by
   have :∀(l:List Nat),(∀i∈l,i<os.length)->(l.filterMap (os[·]?)).length=l.length:=λl=>by
    induction l with
    | nil=>simp
    | cons i l ih=>intro hl;rw[S6,Rt (hl i (by simp))];simp[ih (λx hx=>hl x (by simp[hx]))]
   exact this AP (λi hi=>by rw[<- hlen];exact UM i hi)
  have hj:j<AP.length:=by rw[<- ZI];exact (Rq.1 h).1
  refine⟨AP[j],Rt hj,?_⟩;rw[<- Vt j _ (Rt hj)];exact h
 refine⟨F,AP.filterMap (os[·]?),⟨?_,λt=>Oc Zg (hr.env t),hr.size,λj o ho=>?_,λi j oi oj b hi hj V6 V7=>?_,hr.CL,hr.defers⟩,⟨rfl,rfl,rfl,R3 _,λ_ h=>h,λ_ _=>rfl,λb _ h1 h2=>⟨rfl,h1,λo ho=>?_⟩,λi o hi ho=>⟨o,by rw[Vt i i (hk i hi)];exact ho,R3 _,rfl,λ_=>⟨rfl,rfl,rfl⟩⟩⟩⟩
 ·simp only[BM,<- hr.st,Tl];congr 1;funext i;simp
 ·obtain⟨id,WJ,hoid⟩:=T9 j o ho;have T6:=hr.rows id o hoid;refine⟨T6.pos,T6.lens,T6.none,λb hb=>?_,T6.mo,T6.deep⟩;obtain⟨h1,cur,h2,h3,h4,h5,h6⟩:=T6.some b hb;refine⟨h1,cur,h2,h3,h4,h5,λi x hx j' c hc=>?_⟩;obtain⟨u,e1,e2⟩:=h6 i x hx j' c hc;refine⟨u,e1,ND Vt (Ux id (Ro WJ) o.row ?_ x (Ro hx) c (Ro hc)) e2⟩;rw[<- hr.st,Rs,hoid];rfl
 ·obtain⟨id,WJ,hoid⟩:=T9 i oi hi;obtain⟨Uz,hid',hoid'⟩:=T9 j oj hj;have e:=hr.inj id Uz oi oj b hoid hoid' V6 V7;subst e;have Ww:=Rq.1 WJ;have gy:=Rq.1 hid';obtain⟨Yh,Xw⟩:=Ww;obtain⟨W7,XM⟩:=gy;have hp:=TQ.1 VM;rcases Sb i j with h|h|h
  ·exact absurd (Xw.trans XM.symm) (hp i j Yh W7 h)
  ·exact h
  ·exact absurd (XM.trans Xw.symm) (hp j i W7 Yh h)
 ·simp only[Su]at ho;obtain⟨i,_,hi⟩:=ho;exact h2 o (Ro hi)
end Go.Abs
