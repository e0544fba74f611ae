import Derived.Test.YtihdgoiebmfapaaGreatAbsJ
set_option linter.all false
namespace Go.Abs
open Go
variable {P : Program} {F : Nat -> Prop} {os : List Own} {s : St} {a : Act} {w : World} {k : Nat}
def TY (args:List AV):Nat->AV:=λt=>args.getD t .E2
def NK (P:Program)(s:St):List ResultVar->(List AV->Prop)->Prop
 | [],K=>K []
 | .tmp t::r,K=>NK P s r λvs=>K (s.env t::vs)
 | .cell p t::r,K=>Ot P s.st t (s.env p) λv=>NK P s r λvs=>K (v::vs)
def WD:List AV->AV
 | [v]=>v
 | vs=>.Dm vs
def bG (P:Program)(k:Nat)(fn:Func)(R:AV->List Row->Prop):Exit->St->Prop
 | .normal,s|.ret,s=>∃s',Wk k s s'/\NK P s' fn.results.toList λvs=>R (WD vs) s'.st
 | _,_=>False
def valOf:List Value->Value
 | [v]=>v
 | vs=>.tuple vs.toArray
def Qe (tmps:Array Value):ResultVar->Sem Value
 | .tmp t=>pure (tmps.getD t undef)
 | .cell p t=>do loadVar t (← asAddr (tmps.getD p undef))
theorem Wd {fn:Func}{vs:List Value}(tmps:Array Value)(h:(fn.results.toList.mapM (Qe tmps)).run P w=.ok vs w):
  (results fn tmps).run P w=.ok (valOf vs) w:=by
 have e:results fn tmps=(do let vs ← fn.results.mapM (Qe tmps);pure (if h:vs.size=1 then vs[0] else .tuple vs)):=rfl;rw[e,gr,Array.mapM_eq_mapM_toList,Sem.run_map,h];simp only[gl,hY];congr 1
 match vs with
 | []=>simp[valOf]
 | [v]=>simp[valOf]
 | v::v'::r=>simp[valOf]
theorem N0 (hr:Rel F os s a w):∀(l:List ResultVar) (K:List AV->Prop),NK P s l K->
  ∃vs us,K vs/\(l.mapM (Qe a.tmps)).run P w=.ok us w/\Br F w os vs us
 | [],K,h=>⟨[],[],h,by simp,by simp[Br]⟩
 | .tmp t::r,K,h=>by
  obtain⟨vs,us,h1,h2,h3⟩:=N0 hr r _ h;refine⟨_,a.tmps.getD t undef::us,h1,?_,by simp only[Br];exact⟨_,_,rfl,hr.env t,h3⟩⟩;simp only[jk,gr,Qe,hY,gl,h2]
 | .cell p t::r,K,h=>by
  obtain⟨v,u,h1,h2,h3⟩:=Vr (P:=P) hr h (hr.env p);obtain⟨vs,us,e1,e2,e3⟩:=N0 hr r _ h1;refine⟨_,u::us,e1,?_,by simp only[Br];exact⟨_,_,rfl,h3,e3⟩⟩;have hp:∃ad,a.tmps.getD p undef=.pointer (some ad):=by
   unfold Instr.loadAt at h2;generalize a.tmps.getD p undef=pv at h2;unfold Instr.sureAddr at h2;split at h2
   ·exact⟨_,rfl⟩
   ·simp at h2
  obtain⟨ad,had⟩:=hp;rw[had]at h2;simp only[Instr.loadAt,Instr.sureAddr,gr,hY,gl]at h2;have ha:(asAddr (a.tmps.getD p undef)).run P w=.ok ad w:=by rw[had];rfl
  simp only[jk,gr,Qe,ha,hY,gl,h2,e2]
theorem Ac.intro {f:FuncId}{fn:Func}{c:Code}{args:List AV}{st:List Row}{R:AV->List Row->Prop}(hf:P.funcs[f]?=some fn)(hb:fn.body=some c)(hn:args.length<=fn.ntmps)
  (h:AW P st.length c (bG P st.length fn R) ⟨fn.ntmps,TY args,st⟩):Ac P f args st R:=by
 intro F os w vs hs hl;refine calls_of_wp hf hb ?_;have hlen:=BW hl;have ly:Rel F os ⟨fn.ntmps,TY args,st⟩ { tmps:=vs.toArray++Array.replicate (fn.ntmps-vs.toArray.size) undef,defers:=[] } w:=by
  refine⟨hs.st,λt=>?_,by simp;omega,hs.rows,hs.inj,hs.GG,rfl⟩;simp only[TY,jO,ia];by_cases ht:t<args.length
  ·rw[fm ht,jA];obtain⟨u,e1,e2⟩:=CJ hl t _ (fm ht);rw[ic (by simp;omega)];simp only[jn,e1,jA];exact e2
  ·rw[hH (by omega),Option.getD_none];simp[Ae]
 refine kT (h F os _ w ly) ?_;rintro e a' w' ⟨s',F',os',hQ,hR,hE⟩;have fin:(∃s2,Wk st.length s' s2/\NK P s2 fn.results.toList λvs=>R (WD vs) s2.st)->a'.defers=[]/\∃v,(results fn a'.tmps).run P w'=.ok v w'/\
   ∃v2 r st' F' os',Ending.returned v=.returned v2/\R r st'/\G9 F' os' st' w'/\Ae F' w' os' r v2/\Ext F os w F' os' w' st.length:=λ⟨s2,hw,hres⟩=>by
  obtain⟨F2,os2,hR2,hE2⟩:=hw F' os' a' w' hR;obtain⟨rs,us,h1,h2,h3⟩:=N0 hR2 _ _ hres;refine⟨hR2.defers,_,Wd a'.tmps h2,_,_,s2.st,F2,os2,rfl,h1,hR2.store,?_,hE.trans hE2⟩
  match rs,us,h3 with
  | [],us,h3=>simp only[Br]at h3;subst h3;simp[WD,Ae,Br,valOf]
  | [r],us,h3=>
   simp only[Br]at h3;obtain⟨u,_,rfl,h4,rfl⟩:=h3;exact h4
  | r::r'::rs,us,h3=>
   have zG:=h3;simp only[Br]at zG;obtain⟨u,_,rfl,_,u',us,rfl,_⟩:=zG;simp only[WD,Ae];exact⟨_,rfl,h3⟩
 cases e with
 | normal=>exact fin hQ
 | ret=>exact fin hQ
 | exit id=>exact hQ.elim
 | goto l=>exact hQ.elim
 | panic ch=>exact hQ.elim
 | outgrown=>exact hQ.elim
theorem Ig {t:Nat}(h:s.env t=.zc)(e:TypeId){size:Nat}(mH:0<size):Wk k s { s with env:=Em s.env t (.own s.st.length 0 0),st:=s.st++[⟨0,e,size,[]⟩] }:=λF os a w hr=>by
 obtain⟨h1,h2,h3⟩:=hr.UU (k:=k) (e:=e) mH;refine⟨F,_,⟨h1.st,λj=>?_,h1.size,h1.rows,h1.inj,h1.GG,h1.defers⟩,h2⟩;simp only[Em];split
 ·rename_i ej;subst ej;have:=hr.env j;rw[h]at this;simp only[Ae]at this⊢;obtain⟨ad,ead⟩:=this;exact⟨⟨⟨0,e,size,[]⟩,none,0,FP⟩,by rw[hr.len];exact JR _ _,gA _,⟨_,_,_,ead⟩,λ_=>⟨gK _,.inl ⟨rfl,ad,ead⟩⟩⟩
 ·exact h1.env j
def idx (l:List Nat)(x:Nat):Option Nat:=l.findIdx? (·==x)
def H4 (sel:List Nat):AV->AV
 | .own id g n=>match idx sel id with
  | some j=>.own j g n
  | none=>.E2
 | .ptr id g i off=>match idx sel id with
  | some j=>.ptr j g i off
  | none=>.E2
 | .fn ..|.agg _|.Dm _=>.E2
 | v=>v
def JE (sel:List Nat)(x:AV):AV:=two (H4 sel) x
theorem XF {sel:List Nat}{c:AV}{el s:Nat}{ys:List (List AV)}(h:JE sel c=.dv el s ys):c=.dv el s ys:=by
 refine Q8 (X:=H4 sel) (λc h=>?_) h;cases c<;>simp only[H4]at h<;>first|exact h|cases h|(split at h<;>cases h)
def Je (sel:List Nat):AV->AV
 | .fn f cs=>.fn f (cs.map (JE sel))
 | .agg cs=>.agg (cs.map (JE sel))
 | .Dm cs=>.Dm (cs.map (JE sel))
 | v=>JE sel v
theorem Zl {sel:List Nat}{os':List Own}(mK :∀j id,idx sel id=some j->os'[j]?=os[id]?){x:AV}{v:Value}(h:Ae F w os x v):Ae F w os' (H4 sel x) v:=by
 cases x with
 | own id g n=>
  simp only[H4];split
  ·rename_i j hj;simp only[Ae]at h⊢;rw[mK j id hj];exact h
  ·simp[Ae]
 | ptr id g i off=>
  simp only[H4];split
  ·rename_i j hj;simp only[Ae]at h⊢;rw[mK j id hj];exact h
  ·simp[Ae]
 | fn f cs=>simp[H4,Ae]
 | agg cs=>simp[H4,Ae]
 | Dm cs=>simp[H4,Ae]
 | _=>simp only[H4,Ae]at h⊢<;>exact h
theorem Vh {sel:List Nat}{os':List Own}(mK :∀j id,idx sel id=some j->os'[j]?=os[id]?){x:AV}{v:Value}(h:Ae F w os x v):Ae F w os' (JE sel x) v:=
 Kq (λ_ _ h=>Zl mK h) _ _ h
theorem QJ {sel:List Nat}{os':List Own}(mK :∀j id,idx sel id=some j->os'[j]?=os[id]?){xs:List AV}{us:List Value}(h:Br F w os xs us):Br F w os' (xs.map (JE sel)) us:=
 DV (by simp[BW h]) λi x u hx hu=>by
  simp only[fg,fp]at hx;obtain⟨y,hy,rfl⟩:=hx;obtain⟨u',e1,e2⟩:=CJ h i y hy;rw[hu]at e1;cases e1;exact Vh mK e2
theorem ao {sel:List Nat}{os':List Own}(mK :∀j id,idx sel id=some j->os'[j]?=os[id]?){x:AV}{v:Value}(h:Ae F w os x v):Ae F w os' (Je sel x) v:=by
 cases x with
 | fn f cs=>simp only[Je,Ae]at h⊢;obtain⟨us,e,hl⟩:=h;exact⟨us,e,QJ mK hl⟩
 | agg cs=>simp only[Je,Ae]at h⊢;obtain⟨us,e,hl⟩:=h;exact⟨us,e,QJ mK hl⟩
 | Dm cs=>simp only[Je,Ae]at h⊢;obtain⟨us,e,hl⟩:=h;exact⟨us,e,QJ mK hl⟩
 | _=>exact Vh mK h
def stays (sel:List Nat):AV->Bool
 | .own id _ _|.ptr id _ _ _=>sel[id]?==some id
 | .fn ..|.agg _|.Dm _=>false
 | _=>true
theorem Yf {sel:List Nat}{os':List Own}(mK :∀(j id:Nat),sel[j]?=some id->os'[j]?=os[id]?){x:AV}{v:Value}(hx:stays sel x=true)(h:Ae F w os x v):Ae F w os' x v:=by
 cases x with
 | own id g n=>
  simp only[stays,beq_iff_eq]at hx;simp only[Ae]at h⊢;rw[mK _ _ hx];exact h
 | ptr id g i off=>
  simp only[stays,beq_iff_eq]at hx;simp only[Ae]at h⊢;rw[mK _ _ hx];exact h
 | fn f cs=>simp[stays]at hx
 | agg cs=>simp[stays]at hx
 | Dm cs=>simp[stays]at hx
 | _=>simp only[Ae]at h⊢<;>exact h
def CT (st:List Row)(sel:List Nat):List Row:=sel.filterMap (st[·]?)
theorem Wk.select (sel:List Nat)(hk :∀i,i<k->sel[i]?=some i)(mh:sel.Nodup)(lh :∀i∈sel,i<s.st.length)
  (mg :∀i∈sel,∀row,s.st[i]?=some row->∀x∈row.xs,∀c∈x,stays sel c=true):Wk k s ⟨s.n,λt=>Je sel (s.env t),CT s.st sel⟩:=λF os a w hr=>by
 have hlen:=hr.len;have oF:∀(j id:Nat),sel[j]?=some id->(sel.filterMap (os[·]?))[j]?=os[id]?:=by
  have :∀(l:List Nat),(∀i∈l,i<os.length)->∀(j id:Nat),l[j]?=some id->(l.filterMap (os[·]?))[j]?=os[id]?:=λl=>by
   induction l with
   | nil=>intro _ j id h;simp at h
   | cons i l ih=>
    intro hl j id h;have hi:=hl i (by simp);rw[iU,fm hi];cases j with
    | zero=>simp only[gQ,ff]at h;subst h;simp[fm hi]
    | succ j=>simp only[gZ]at h⊢;exact ih (λx hx=>hl x (by simp[hx])) j id h
  exact this sel (λi hi=>by rw[<- hlen];exact lh i hi)
 have sv:∀j id,idx sel id=some j->(sel.filterMap (os[·]?))[j]?=os[id]?:=λj id h=>by
  refine oF j id ?_;unfold idx at h;rw[ib]at h;obtain⟨hj,he,_⟩:=h;rw[fm hj];simpa using he
 have lW:∀(j:Nat) (o:Own),(sel.filterMap (os[·]?))[j]?=some o->∃id,sel[j]?=some id/\os[id]?=some o:=λj o h=>by
  have rZ:(sel.filterMap (os[·]?)).length=sel.length:=by
   have :∀(l:List Nat),(∀i∈l,i<os.length)->(l.filterMap (os[·]?)).length=l.length:=λl=>by
    induction l with
    | nil=>simp
    | cons i l ih=>intro hl;rw[iU,fm (hl i (by simp))];simp[ih (λx hx=>hl x (by simp[hx]))]
   exact this sel (λi hi=>by rw[<- hlen];exact lh i hi)
  have hj:j<sel.length:=by rw[<- rZ];exact (fe.1 h).1
  refine⟨sel[j],fm hj,?_⟩;rw[<- oF j _ (fm hj)];exact h
 refine⟨F,sel.filterMap (os[·]?),⟨?_,λt=>ao sv (hr.env t),hr.size,λj o ho=>?_,λi j oi oj b hi hj nD nE=>?_,hr.GG,hr.defers⟩,⟨rfl,rfl,rfl,gA _,λ_ h=>h,λ_ _=>rfl,λb _ h1 h2=>⟨rfl,h1,λo ho=>?_⟩,λi o hi ho=>⟨o,by rw[oF i i (hk i hi)];exact ho,gA _,rfl,λ_=>⟨rfl,rfl,rfl⟩⟩⟩⟩
 ·simp only[CT,<- hr.st,jz];congr 1;funext i;simp
 ·obtain⟨id,oT,hoid⟩:=lW j o ho;have lU:=hr.rows id o hoid;refine⟨lU.pos,lU.lens,lU.none,λb hb=>?_,lU.mo,lU.deep⟩;obtain⟨h1,cur,h2,h3,h4,h5,h6⟩:=lU.some b hb;refine⟨h1,cur,h2,h3,h4,h5,λi x hx j' c hc=>?_⟩;obtain⟨u,e1,e2⟩:=h6 i x hx j' c hc;refine⟨u,e1,Yf oF (mg id (fc oT) o.row ?_ x (fc hx) c (fc hc)) e2⟩;rw[<- hr.st,fg,hoid];rfl
 ·obtain⟨id,oT,hoid⟩:=lW i oi hi;obtain⟨mG,hid',hoid'⟩:=lW j oj hj;have e:=hr.inj id mG oi oj b hoid hoid' nD nE;subst e;have ni:=fe.1 oT;have uj:=fe.1 hid';obtain⟨ra,rp⟩:=ni;obtain⟨pq,qK⟩:=uj;have hp:=jT.1 mh;rcases iH i j with h|h|h
  ·exact absurd (rp.trans qK.symm) (hp i j ra pq h)
  ·exact h
  ·exact absurd (qK.trans rp.symm) (hp j i pq ra h)
 ·simp only[hU]at ho;obtain⟨i,_,hi⟩:=ho;exact h2 o (fc hi)
end Go.Abs
