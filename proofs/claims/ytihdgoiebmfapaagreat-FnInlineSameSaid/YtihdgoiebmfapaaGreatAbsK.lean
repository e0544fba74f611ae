import Derived.Test.YtihdgoiebmfapaaGreatAbsJ
set_option linter.all false
namespace Go.Abs
open Go
variable {P : Program} {F : Nat -> Prop} {os : List Own} {s : St} {a : Act} {w : World} {k : Nat}
def Pm (args:List AV):Nat->AV:=λt=>args.getD t .FZ
def ND (P:Program)(s:St):List ResultVar->(List AV->Prop)->Prop
 | [],K=>K []
 |.tmp t::r,K=>ND P s r λvs=>K (s.env t::vs)
 |.cell p t::r,K=>QS P s.st t (s.env p) λv=>ND P s r λvs=>K (v::vs)
def SY:List AV->AV
 | [v]=>v
 |vs=>.C8 vs
def fy (P:Program)(k:Nat)(fn:Func)(R:AV->List Row->Prop):Exit->St->Prop
 |.normal,s|.ret,s=>∃s',Wk k s s'/\ND P s' fn.results.toList λvs=>R (SY vs) s'.st
 |_,_=>False
def valOf:List Value->Value
 | [v]=>v
 |vs=>.tuple vs.toArray
def UT (tmps:Array Value):ResultVar->Sem Value
 |.tmp t=>pure (tmps.getD t undef)
 |.cell p t=>do loadVar t (← asAddr (tmps.getD p undef))
theorem TK {fn:Func}{vs:List Value}(tmps:Array Value)(h:(fn.results.toList.mapM (UT tmps)).run P w=.ok vs w):
  (results fn tmps).run P w=.ok (valOf vs) w:=by
 have e:results fn tmps=(do let vs ← fn.results.mapM (UT tmps);pure (if h:vs.size=1 then vs[0] else .tuple vs)):=rfl;rw[e,qG,Array.mapM_eq_mapM_toList,Sem.run_map,h];simp only[qD,qV];congr 1
 match vs with
 | []=>simp[valOf]
 | [v]=>simp[valOf]
 |v::v'::r=>simp[valOf]
theorem NB (hr:Rel F os s a w):∀(l:List ResultVar) (K:List AV->Prop),ND P s l K->
  ∃vs us,K vs/\(l.mapM (UT a.tmps)).run P w=.ok us w/\Br F w os vs us
 | [],K,h=>⟨[],[],h,by simp,by simp[Br]⟩
 |.tmp t::r,K,h=>by
  obtain⟨vs,us,h1,h2,h3⟩:=NB hr r _ h;refine⟨_,a.tmps.getD t undef::us,h1,?_,by simp only[Br];exact⟨_,_,rfl,hr.env t,h3⟩⟩;simp only[sS,qG,UT,qV,qD,h2]
 |.cell p t::r,K,h=>by
  obtain⟨v,u,h1,h2,h3⟩:=Zo (P:=P) hr h (hr.env p);obtain⟨vs,us,e1,e2,e3⟩:=NB hr r _ h1;refine⟨_,u::us,e1,?_,by simp only[Br];exact⟨_,_,rfl,h3,e3⟩⟩;have hp:∃ad,a.tmps.getD p undef=.pointer (some ad):=by
   unfold Instr.loadAt at h2;generalize a.tmps.getD p undef=pv at h2;unfold Instr.sureAddr at h2;split at h2
   .exact⟨_,rfl⟩
   .simp at h2
  obtain⟨ad,had⟩:=hp;rw[had]at h2;simp only[Instr.loadAt,Instr.sureAddr,qG,qV,qD]at h2;have ha:(asAddr (a.tmps.getD p undef)).run P w=.ok ad w:=by rw[had];rfl
  simp only[sS,qG,UT,ha,qV,qD,h2,e2]
theorem BJ.intro {f:FuncId}{fn:Func}{c:Code}{args:List AV}{st:List Row}{R:AV->List Row->Prop}(hf:P.funcs[f]?=some fn)(hb:fn.body=some c)(hn:args.length<=fn.ntmps)
  (h:AW P st.length c (fy P st.length fn R) ⟨fn.ntmps,Pm args,st⟩):BJ P f args st R:=by
 intro F os w vs hs hl;refine calls_of_wp hf hb ?_;have hlen:=BX hl;have hrel:Rel F os ⟨fn.ntmps,Pm args,st⟩ { tmps:=vs.toArray++Array.replicate (fn.ntmps-vs.toArray.size) undef,defers:=[] } w:=by
  refine⟨hs.st,λt=>?_,by simp;omega,hs.rows,hs.inj,hs.Fu,rfl⟩;simp only[Pm,rM,qm];by_cases ht:t<args.length
  .rw[pF ht,rK];obtain⟨u,e1,e2⟩:=CH hl t _ (pF ht);rw[qy (by simp;omega)];simp only[rq,e1,rK];exact e2
  .rw[qA (by omega),Option.getD_none];simp[Ab]
 refine rn (h F os _ w hrel) ?_;rintro e a' w' ⟨s',F',os',hQ,hR,hE⟩;have fin:(∃s2,Wk st.length s' s2/\ND P s2 fn.results.toList λvs=>R (SY vs) s2.st)->a'.defers=[]/\∃v,(results fn a'.tmps).run P w'=.ok v w'/\
   ∃v2 r st' F' os',Ending.returned v=.returned v2/\R r st'/\Hc F' os' st' w'/\Ab F' w' os' r v2/\Ext F os w F' os' w' st.length:=λ⟨s2,hw,hres⟩=>by
  obtain⟨F2,os2,hR2,hE2⟩:=hw F' os' a' w' hR;obtain⟨rs,us,h1,h2,h3⟩:=NB hR2 _ _ hres;refine⟨hR2.defers,_,TK a'.tmps h2,_,_,s2.st,F2,os2,rfl,h1,hR2.store,?_,hE.trans hE2⟩
  match rs,us,h3 with
  | [],us,h3=>simp only[Br]at h3;subst h3;simp[SY,Ab,Br,valOf]
  | [r],us,h3=>
   simp only[Br]at h3;obtain⟨u,_,rfl,h4,rfl⟩:=h3;exact h4
  |r::r'::rs,us,h3=>
   have h3':=h3;simp only[Br]at h3';obtain⟨u,_,rfl,_,u',us,rfl,_⟩:=h3';simp only[SY,Ab];exact⟨_,rfl,h3⟩
 cases e with
 |normal=>exact fin hQ
 |ret=>exact fin hQ
 |exit id=>exact hQ.elim
 |goto l=>exact hQ.elim
 |panic ch=>exact hQ.elim
 |outgrown=>exact hQ.elim
theorem HU {t:Nat}(h:s.env t=.zc)(e:TypeId){size:Nat}(uz:0<size):Wk k s { s with env:=DQ s.env t (.own s.st.length 0 0),st:=s.st++[⟨0,e,size,[]⟩] }:=λF os a w hr=>by
 obtain⟨h1,h2,h3⟩:=hr.YT (k:=k) (e:=e) uz;refine⟨F,_,⟨h1.st,λj=>?_,h1.size,h1.rows,h1.inj,h1.Fu,h1.defers⟩,h2⟩;simp only[DQ];split
 .rename_i ej;subst ej;have:=hr.env j;rw[h]at this;simp only[Ab]at this⊢;obtain⟨ad,ead⟩:=this;exact⟨⟨⟨0,e,size,[]⟩,none,0,GF⟩,by rw[hr.len];exact J1 _ _,pL _,⟨_,_,_,ead⟩,λ_=>⟨pT _,.inl ⟨rfl,ad,ead⟩⟩⟩
 .exact h1.env j
def idx (l:List Nat)(x:Nat):Option Nat:=l.findIdx? (·==x)
def I9 (sel:List Nat):AV->AV
 |.own id g n=>match idx sel id with
  |some j=>.own j g n
  |none=>.FZ
 |.ptr id g i off=>match idx sel id with
  |some j=>.ptr j g i off
  |none=>.FZ
 |.fn ..|.agg _|.C8 _=>.FZ
 |v=>v
def Jg (sel:List Nat)(x:AV):AV:=two (I9 sel) x
theorem bx {sel:List Nat}{c:AV}{el s:Nat}{ys:List (List AV)}(h:Jg sel c=.dv el s ys):c=.dv el s ys:=by
 refine Tl (X:=I9 sel) (λc h=>?_) h;cases c<;>simp only[I9]at h<;>first|exact h|cases h|(split at h<;>cases h)
def Jn (sel:List Nat):AV->AV
 |.fn f cs=>.fn f (cs.map (Jg sel))
 |.agg cs=>.agg (cs.map (Jg sel))
 |.C8 cs=>.C8 (cs.map (Jg sel))
 |v=>Jg sel v
theorem gN {sel:List Nat}{os':List Own}(vP :∀j id,idx sel id=some j->os'[j]?=os[id]?){x:AV}{v:Value}(h:Ab F w os x v):Ab F w os' (I9 sel x) v:=by
 cases x with
 |own id g n=>
  simp only[I9];split
  .rename_i j hj;simp only[Ab]at h⊢;rw[vP j id hj];exact h
  .simp[Ab]
 |ptr id g i off=>
  simp only[I9];split
  .rename_i j hj;simp only[Ab]at h⊢;rw[vP j id hj];exact h
  .simp[Ab]
 |fn f cs=>simp[I9,Ab]
 |agg cs=>simp[I9,Ab]
 |C8 cs=>simp[I9,Ab]
 |_=>simp only[I9,Ab]at h⊢<;>exact h
theorem ZU {sel:List Nat}{os':List Own}(vP :∀j id,idx sel id=some j->os'[j]?=os[id]?){x:AV}{v:Value}(h:Ab F w os x v):Ab F w os' (Jg sel x) v:=
 MN (λ_ _ h=>gN vP h) _ _ h
theorem Se {sel:List Nat}{os':List Own}(vP :∀j id,idx sel id=some j->os'[j]?=os[id]?){xs:List AV}{us:List Value}(h:Br F w os xs us):Br F w os' (xs.map (Jg sel)) us:=
 Db (by simp[BX h]) λi x u hx hu=>by
  simp only[pB,pH]at hx;obtain⟨y,hy,rfl⟩:=hx;obtain⟨u',e1,e2⟩:=CH h i y hy;rw[hu]at e1;cases e1;exact ZU vP e2
theorem kA {sel:List Nat}{os':List Own}(vP :∀j id,idx sel id=some j->os'[j]?=os[id]?){x:AV}{v:Value}(h:Ab F w os x v):Ab F w os' (Jn sel x) v:=by
 cases x with
 |fn f cs=>simp only[Jn,Ab]at h⊢;obtain⟨us,e,hl⟩:=h;exact⟨us,e,Se vP hl⟩
 |agg cs=>simp only[Jn,Ab]at h⊢;obtain⟨us,e,hl⟩:=h;exact⟨us,e,Se vP hl⟩
 |C8 cs=>simp only[Jn,Ab]at h⊢;obtain⟨us,e,hl⟩:=h;exact⟨us,e,Se vP hl⟩
 |_=>exact ZU vP h
def stays (sel:List Nat):AV->Bool
 |.own id _ _|.ptr id _ _ _=>sel[id]?==some id
 |.fn ..|.agg _|.C8 _=>false
 |_=>true
theorem er {sel:List Nat}{os':List Own}(vP :∀(j id:Nat),sel[j]?=some id->os'[j]?=os[id]?){x:AV}{v:Value}(hx:stays sel x=true)(h:Ab F w os x v):Ab F w os' x v:=by
 cases x with
 |own id g n=>
  simp only[stays,beq_iff_eq]at hx;simp only[Ab]at h⊢;rw[vP _ _ hx];exact h
 |ptr id g i off=>
  simp only[stays,beq_iff_eq]at hx;simp only[Ab]at h⊢;rw[vP _ _ hx];exact h
 |fn f cs=>simp[stays]at hx
 |agg cs=>simp[stays]at hx
 |C8 cs=>simp[stays]at hx
 |_=>simp only[Ab]at h⊢<;>exact h
def CE (st:List Row)(sel:List Nat):List Row:=sel.filterMap (st[·]?)
theorem Wk.select (sel:List Nat)(hk :∀i,i<k->sel[i]?=some i)(vu:sel.Nodup)(uU :∀i∈sel,i<s.st.length)
  (vn :∀i∈sel,∀row,s.st[i]?=some row->∀x∈row.xs,∀c∈x,stays sel c=true):Wk k s ⟨s.n,λt=>Jn sel (s.env t),CE s.st sel⟩:=λF os a w hr=>by
 have hlen:=hr.len;have xe:∀(j id:Nat),sel[j]?=some id->(sel.filterMap (os[·]?))[j]?=os[id]?:=by
  have :∀(l:List Nat),(∀i∈l,i<os.length)->∀(j id:Nat),l[j]?=some id->(l.filterMap (os[·]?))[j]?=os[id]?:=λl=>by
   induction l with
   |nil=>intro _ j id h;simp at h
   |cons i l ih=>
    intro hl j id h;have hi:=hl i (by simp);rw[rB,pF hi];cases j with
    |zero=>simp only[ph,pC]at h;subst h;simp[pF hi]
    |succ j=>simp only[py]at h⊢;exact ih (λx hx=>hl x (by simp[hx])) j id h
  exact this sel (λi hi=>by rw[<- hlen];exact uU i hi)
 have hos2:∀j id,idx sel id=some j->(sel.filterMap (os[·]?))[j]?=os[id]?:=λj id h=>by
  refine xe j id ?_;unfold idx at h;rw[rL]at h;obtain⟨hj,he,_⟩:=h;rw[pF hj];simpa using he
 have uD:∀(j:Nat) (o:Own),(sel.filterMap (os[·]?))[j]?=some o->∃id,sel[j]?=some id/\os[id]?=some o:=λj o h=>by
  have hl2:(sel.filterMap (os[·]?)).length=sel.length:=by
   have :∀(l:List Nat),(∀i∈l,i<os.length)->(l.filterMap (os[·]?)).length=l.length:=λl=>by
    induction l with
    |nil=>simp
    |cons i l ih=>intro hl;rw[rB,pF (hl i (by simp))];simp[ih (λx hx=>hl x (by simp[hx]))]
   exact this sel (λi hi=>by rw[<- hlen];exact uU i hi)
  have hj:j<sel.length:=by rw[<- hl2];exact (pA.1 h).1
  refine⟨sel[j],pF hj,?_⟩;rw[<- xe j _ (pF hj)];exact h
 refine⟨F,sel.filterMap (os[·]?),⟨?_,λt=>kA hos2 (hr.env t),hr.size,λj o ho=>?_,λi j oi oj b hi hj wJ wK=>?_,hr.Fu,hr.defers⟩,⟨rfl,rfl,rfl,pL _,λ_ h=>h,λ_ _=>rfl,λb _ h1 h2=>⟨rfl,h1,λo ho=>?_⟩,λi o hi ho=>⟨o,by rw[xe i i (hk i hi)];exact ho,pL _,rfl,λ_=>⟨rfl,rfl,rfl⟩⟩⟩⟩
 .simp only[CE,<- hr.st,si];congr 1;funext i;simp
 .obtain⟨id,xA,hoid⟩:=uD j o ho;have tz:=hr.rows id o hoid;refine⟨tz.pos,tz.lens,tz.none,λb hb=>?_,tz.mo,tz.deep⟩;obtain⟨h1,cur,h2,h3,h4,h5,h6⟩:=tz.some b hb;refine⟨h1,cur,h2,h3,h4,h5,λi x hx j' c hc=>?_⟩;obtain⟨u,e1,e2⟩:=h6 i x hx j' c hc;refine⟨u,e1,er xe (vn id (ov xA) o.row ?_ x (ov hx) c (ov hc)) e2⟩;rw[<- hr.st,pB,hoid];rfl
 .obtain⟨id,xA,hoid⟩:=uD i oi hi;obtain⟨vH,hid',hoid'⟩:=uD j oj hj;have e:=hr.inj id vH oi oj b hoid hoid' wJ wK;subst e;have xI:=pA.1 xA;have hj':=pA.1 hid';obtain⟨hi1,hi2⟩:=xI;obtain⟨zQ,hj2⟩:=hj';have hp:=sE.1 vu;rcases qk i j with h|h|h
  .exact absurd (hi2.trans hj2.symm) (hp i j hi1 zQ h)
  .exact h
  .exact absurd (hj2.trans hi2.symm) (hp j i zQ hi1 h)
 .simp only[qg]at ho;obtain⟨i,_,hi⟩:=ho;exact h2 o (ov hi)
end Go.Abs
