import Derived.Test.YtccficmcdkcpnaaGreatAbsJ
set_option linter.all false
namespace Go.Abs
open Go
variable {P : Program} {F : Nat -> Prop} {os : List Own} {s : St} {a : Act} {w : World} {k : Nat}
def Xe (args:List AV):Nat->AV:=λt=>args.getD t .FZ
def QD (P:Program)(s:St):List ResultVar->(List AV->Prop)->Prop
 | [],K=>K []
 | .tmp t::r,K=>QD P s r λvs=>K (s.env t::vs)
 | .cell p t::r,K=>SA P s.st t (s.env p) λv=>QD P s r λvs=>K (v::vs)
def aa:List AV->AV
 | [v]=>v
 | vs=>.Dv vs
def gA (P:Program)(k:Nat)(fn:Func)(R:AV->List Row->Prop):Exit->St->Prop
 | .normal,s|.ret,s=>∃s',Wk k s s'/\QD P s' fn.results.toList λvs=>R (aa vs) s'.st
 | _,_=>False
def valOf:List Value->Value
 | [v]=>v
 | vs=>.tuple vs.toArray
def Uc (tmps:Array Value):ResultVar->Sem Value
 | .tmp t=>pure (tmps.getD t undef)
 | .cell p t=>do loadVar t (← asAddr (tmps.getD p undef))
theorem aC {fn:Func}{vs:List Value}(tmps:Array Value)(h:(fn.results.toList.mapM (Uc tmps)).run P w=.ok vs w):
  (results fn tmps).run P w=.ok (valOf vs) w:=by
 have e:results fn tmps=(do let vs ← fn.results.mapM (Uc tmps);pure (if h:vs.size=1 then vs[0] else .tuple vs)):=rfl;rw[e,qs,Array.mapM_eq_mapM_toList,Sem.run_map,h];simp only[qp,rH];congr 1
 match vs with
 | []=>simp[valOf]
 | [v]=>simp[valOf]
 | v::v'::r=>simp[valOf]
theorem Q9 (hr:Rel F os s a w):∀(l:List ResultVar) (K:List AV->Prop),QD P s l K->
  ∃vs us,K vs/\(l.mapM (Uc a.tmps)).run P w=.ok us w/\Bw F w os vs us
 | [],K,h=>⟨[],[],h,by simp,by simp[Bw]⟩
 | .tmp t::r,K,h=>by
  obtain⟨vs,us,h1,h2,h3⟩:=Q9 hr r _ h;refine⟨_,a.tmps.getD t undef::us,h1,?_,by simp only[Bw];exact⟨_,_,rfl,hr.env t,h3⟩⟩;simp only[tB,qs,Uc,rH,qp,h2]
 | .cell p t::r,K,h=>by
  obtain⟨v,u,h1,h2,h3⟩:=ZO (P:=P) hr h (hr.env p);obtain⟨vs,us,e1,e2,e3⟩:=Q9 hr r _ h1;refine⟨_,u::us,e1,?_,by simp only[Bw];exact⟨_,_,rfl,h3,e3⟩⟩;have hp:∃ad,a.tmps.getD p undef=.pointer (some ad):=by
   unfold Instr.loadAt at h2;generalize a.tmps.getD p undef=pv at h2;unfold Instr.sureAddr at h2;split at h2
   ·exact⟨_,rfl⟩
   ·simp at h2
  obtain⟨ad,had⟩:=hp;rw[had]at h2;simp only[Instr.loadAt,Instr.sureAddr,qs,rH,qp]at h2;have ha:(asAddr (a.tmps.getD p undef)).run P w=.ok ad w:=by rw[had];rfl
  simp only[tB,qs,Uc,ha,rH,qp,h2,e2]
theorem BS.intro {f:FuncId}{fn:Func}{c:Code}{args:List AV}{st:List Row}{R:AV->List Row->Prop}(hf:P.funcs[f]?=some fn)(hb:fn.body=some c)(hn:args.length<=fn.ntmps)
  (h:AW P st.length c (gA P st.length fn R) ⟨fn.ntmps,Xe args,st⟩):BS P f args st R:=by
 intro F os w vs hs hl;refine calls_of_wp hf hb ?_;have hlen:=BW hl;have vb:Rel F os ⟨fn.ntmps,Xe args,st⟩ { tmps:=vs.toArray++Array.replicate (fn.ntmps-vs.toArray.size) undef,defers:=[] } w:=by
  refine⟨hs.st,λt=>?_,by simp;omega,hs.rows,hs.inj,hs.HO,rfl⟩;simp only[Xe,sa,rq];by_cases ht:t<args.length
  ·rw[qD ht,sN];obtain⟨u,e1,e2⟩:=CJ hl t _ (qD ht);rw[ru (by simp;omega)];simp only[tE,e1,sN];exact e2
  ·rw[rR (by omega),Option.getD_none];simp[Ac]
 refine tu (h F os _ w vb) ?_;rintro e a' w' ⟨s',F',os',hQ,hR,hE⟩;have fin:(∃s2,Wk st.length s' s2/\QD P s2 fn.results.toList λvs=>R (aa vs) s2.st)->a'.defers=[]/\∃v,(results fn a'.tmps).run P w'=.ok v w'/\
   ∃v2 r st' F' os',Ending.returned v=.returned v2/\R r st'/\IY F' os' st' w'/\Ac F' w' os' r v2/\Ext F os w F' os' w' st.length:=λ⟨s2,hw,hres⟩=>by
  obtain⟨F2,os2,hR2,hE2⟩:=hw F' os' a' w' hR;obtain⟨rs,us,h1,h2,h3⟩:=Q9 hR2 _ _ hres;refine⟨hR2.defers,_,aC a'.tmps h2,_,_,s2.st,F2,os2,rfl,h1,hR2.store,?_,hE.trans hE2⟩
  match rs,us,h3 with
  | [],us,h3=>simp only[Bw]at h3;subst h3;simp[aa,Ac,Bw,valOf]
  | [r],us,h3=>
   simp only[Bw]at h3;obtain⟨u,_,rfl,h4,rfl⟩:=h3;exact h4
  | r::r'::rs,us,h3=>
   have h3':=h3;simp only[Bw]at h3';obtain⟨u,_,rfl,_,u',us,rfl,_⟩:=h3';simp only[aa,Ac];exact⟨_,rfl,h3⟩
 cases e with
 | normal=>exact fin hQ
 | ret=>exact fin hQ
 | exit id=>exact hQ.elim
 | goto l=>exact hQ.elim
 | panic ch=>exact hQ.elim
 | outgrown=>exact hQ.elim
theorem JV {t:Nat}(h:s.env t=.zc)(e:TypeId){size:Nat}(ve:0<size):Wk k s { s with env:=Dr s.env t (.own s.st.length 0 0),st:=s.st++[⟨0,e,size,[]⟩] }:=λF os a w hr=>by
 obtain⟨h1,h2,h3⟩:=hr.Xj (k:=k) (e:=e) ve;refine⟨F,_,⟨h1.st,λj=>?_,h1.size,h1.rows,h1.inj,h1.HO,h1.defers⟩,h2⟩;simp only[Dr];split
 ·rename_i ej;subst ej;have:=hr.env j;rw[h]at this;simp only[Ac]at this⊢;obtain⟨ad,ead⟩:=this;exact⟨⟨⟨0,e,size,[]⟩,none,0,Ga⟩,by rw[hr.len];exact KU _ _,qU _,⟨_,_,_,ead⟩,λ_=>⟨qd _,.inl ⟨rfl,ad,ead⟩⟩⟩
 ·exact h1.env j
def idx (l:List Nat)(x:Nat):Option Nat:=l.findIdx? (·==x)
def Jy (sel:List Nat):AV->AV
 | .own id g n=>match idx sel id with
  | some j=>.own j g n
  | none=>.FZ
 | .ptr id g i off=>match idx sel id with
  | some j=>.ptr j g i off
  | none=>.FZ
 | .fn ..|.agg _|.Dv _=>.FZ
 | v=>v
def Jw (sel:List Nat)(x:AV):AV:=two (Jy sel) x
theorem bh {sel:List Nat}{c:AV}{el s:Nat}{ys:List (List AV)}(h:Jw sel c=.dv el s ys):c=.dv el s ys:=by
 refine T8 (X:=Jy sel) (λc h=>?_) h;cases c<;>simp only[Jy]at h<;>first|exact h|cases h|(split at h<;>cases h)
def Jx (sel:List Nat):AV->AV
 | .fn f cs=>.fn f (cs.map (Jw sel))
 | .agg cs=>.agg (cs.map (Jw sel))
 | .Dv cs=>.Dv (cs.map (Jw sel))
 | v=>Jw sel v
theorem jY {sel:List Nat}{os':List Own}(vq :∀j id,idx sel id=some j->os'[j]?=os[id]?){x:AV}{v:Value}(h:Ac F w os x v):Ac F w os' (Jy sel x) v:=by
 cases x with
 | own id g n=>
  simp only[Jy];split
  ·rename_i j hj;simp only[Ac]at h⊢;rw[vq j id hj];exact h
  ·simp[Ac]
 | ptr id g i off=>
  simp only[Jy];split
  ·rename_i j hj;simp only[Ac]at h⊢;rw[vq j id hj];exact h
  ·simp[Ac]
 | fn f cs=>simp[Jy,Ac]
 | agg cs=>simp[Jy,Ac]
 | Dv cs=>simp[Jy,Ac]
 | _=>simp only[Jy,Ac]at h⊢<;>exact h
theorem ZQ {sel:List Nat}{os':List Own}(vq :∀j id,idx sel id=some j->os'[j]?=os[id]?){x:AV}{v:Value}(h:Ac F w os x v):Ac F w os' (Jw sel x) v:=
 Ng (λ_ _ h=>jY vq h) _ _ h
theorem TV {sel:List Nat}{os':List Own}(vq :∀j id,idx sel id=some j->os'[j]?=os[id]?){xs:List AV}{us:List Value}(h:Bw F w os xs us):Bw F w os' (xs.map (Jw sel)) us:=
 Df (by simp[BW h]) λi x u hx hu=>by
  simp only[qA,qB]at hx;obtain⟨y,hy,rfl⟩:=hx;obtain⟨u',e1,e2⟩:=CJ h i y hy;rw[hu]at e1;cases e1;exact ZQ vq e2
theorem lH {sel:List Nat}{os':List Own}(vq :∀j id,idx sel id=some j->os'[j]?=os[id]?){x:AV}{v:Value}(h:Ac F w os x v):Ac F w os' (Jx sel x) v:=by
 cases x with
 | fn f cs=>simp only[Jx,Ac]at h⊢;obtain⟨us,e,hl⟩:=h;exact⟨us,e,TV vq hl⟩
 | agg cs=>simp only[Jx,Ac]at h⊢;obtain⟨us,e,hl⟩:=h;exact⟨us,e,TV vq hl⟩
 | Dv cs=>simp only[Jx,Ac]at h⊢;obtain⟨us,e,hl⟩:=h;exact⟨us,e,TV vq hl⟩
 | _=>exact ZQ vq h
def stays (sel:List Nat):AV->Bool
 | .own id _ _|.ptr id _ _ _=>sel[id]?==some id
 | .fn ..|.agg _|.Dv _=>false
 | _=>true
theorem dc {sel:List Nat}{os':List Own}(vq :∀(j id:Nat),sel[j]?=some id->os'[j]?=os[id]?){x:AV}{v:Value}(hx:stays sel x=true)(h:Ac F w os x v):Ac F w os' x v:=by
 cases x with
 | own id g n=>
  simp only[stays,beq_iff_eq]at hx;simp only[Ac]at h⊢;rw[vq _ _ hx];exact h
 | ptr id g i off=>
  simp only[stays,beq_iff_eq]at hx;simp only[Ac]at h⊢;rw[vq _ _ hx];exact h
 | fn f cs=>simp[stays]at hx
 | agg cs=>simp[stays]at hx
 | Dv cs=>simp[stays]at hx
 | _=>simp only[Ac]at h⊢<;>exact h
def CD (st:List Row)(sel:List Nat):List Row:=sel.filterMap (st[·]?)
theorem Wk.select (sel:List Nat)(hk :∀i,i<k->sel[i]?=some i)(wc:sel.Nodup)(vS :∀i∈sel,i<s.st.length)
  (wV :∀i∈sel,∀row,s.st[i]?=some row->∀x∈row.xs,∀c∈x,stays sel c=true):Wk k s ⟨s.n,λt=>Jx sel (s.env t),CD s.st sel⟩:=λF os a w hr=>by
 have hlen:=hr.len;have yG:∀(j id:Nat),sel[j]?=some id->(sel.filterMap (os[·]?))[j]?=os[id]?:=by
  have :∀(l:List Nat),(∀i∈l,i<os.length)->∀(j id:Nat),l[j]?=some id->(l.filterMap (os[·]?))[j]?=os[id]?:=λl=>by
   induction l with
   | nil=>intro _ j id h;simp at h
   | cons i l ih=>
    intro hl j id h;have hi:=hl i (by simp);rw[rl,qD hi];cases j with
    | zero=>simp only[qg,pz]at h;subst h;simp[qD hi]
    | succ j=>simp only[qq]at h⊢;exact ih (λx hx=>hl x (by simp[hx])) j id h
  exact this sel (λi hi=>by rw[<- hlen];exact vS i hi)
 have hos2:∀j id,idx sel id=some j->(sel.filterMap (os[·]?))[j]?=os[id]?:=λj id h=>by
  refine yG j id ?_;unfold idx at h;rw[rr]at h;obtain⟨hj,he,_⟩:=h;rw[qD hj];simpa using he
 have vJ:∀(j:Nat) (o:Own),(sel.filterMap (os[·]?))[j]?=some o->∃id,sel[j]?=some id/\os[id]?=some o:=λj o h=>by
  have yQ:(sel.filterMap (os[·]?)).length=sel.length:=by
   have :∀(l:List Nat),(∀i∈l,i<os.length)->(l.filterMap (os[·]?)).length=l.length:=λl=>by
    induction l with
    | nil=>simp
    | cons i l ih=>intro hl;rw[rl,qD (hl i (by simp))];simp[ih (λx hx=>hl x (by simp[hx]))]
   exact this sel (λi hi=>by rw[<- hlen];exact vS i hi)
  have hj:j<sel.length:=by rw[<- yQ];exact (px.1 h).1
  refine⟨sel[j],qD hj,?_⟩;rw[<- yG j _ (qD hj)];exact h
 refine⟨F,sel.filterMap (os[·]?),⟨?_,λt=>lH hos2 (hr.env t),hr.size,λj o ho=>?_,λi j oi oj b hi hj wP xC=>?_,hr.HO,hr.defers⟩,⟨rfl,rfl,rfl,qU _,λ_ h=>h,λ_ _=>rfl,λb _ h1 h2=>⟨rfl,h1,λo ho=>?_⟩,λi o hi ho=>⟨o,by rw[yG i i (hk i hi)];exact ho,qU _,rfl,λ_=>⟨rfl,rfl,rfl⟩⟩⟩⟩
 ·simp only[CD,<- hr.st,tS];congr 1;funext i;simp
 ·obtain⟨id,yV,hoid⟩:=vJ j o ho;have vF:=hr.rows id o hoid;refine⟨vF.pos,vF.lens,vF.none,λb hb=>?_,vF.mo,vF.deep⟩;obtain⟨h1,cur,h2,h3,h4,h5,h6⟩:=vF.some b hb;refine⟨h1,cur,h2,h3,h4,h5,λi x hx j' c hc=>?_⟩;obtain⟨u,e1,e2⟩:=h6 i x hx j' c hc;refine⟨u,e1,dc yG (wV id (pt yV) o.row ?_ x (pt hx) c (pt hc)) e2⟩;rw[<- hr.st,qA,hoid];rfl
 ·obtain⟨id,yV,hoid⟩:=vJ i oi hi;obtain⟨vr,hid',hoid'⟩:=vJ j oj hj;have e:=hr.inj id vr oi oj b hoid hoid' wP xC;subst e;have xj:=px.1 yV;have hj':=px.1 hid';obtain⟨hi1,hi2⟩:=xj;obtain⟨hj1,hj2⟩:=hj';have hp:=sj.1 wc;rcases rb i j with h|h|h
  ·exact absurd (hi2.trans hj2.symm) (hp i j hi1 hj1 h)
  ·exact h
  ·exact absurd (hj2.trans hi2.symm) (hp j i hj1 hi1 h)
 ·simp only[rQ]at ho;obtain⟨i,_,hi⟩:=ho;exact h2 o (pt hi)
end Go.Abs
