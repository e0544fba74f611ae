import Derived.Test.YtgiajkaabnbieaaGreatAbsV
set_option linter.all false
namespace Go.Abs
open Go
inductive PL:List (Nat×AV)->List (Nat×AV)->Prop where
 | nil:PL [] []
 | cons {i:Nat} {a b:AV} {r r':List (Nat×AV)}:le a b->PL r r'->PL ((i,a)::r) ((i,b)::r')
theorem PL.fst {r r':List (Nat×AV)}(h:PL r r'):r.map (·.1)=r'.map (·.1):=by
 induction h with
 | nil=>rfl
 | cons _ _ ih=>simp[ih]
theorem PL.get {r r':List (Nat×AV)}(h:PL r r'):∀(j:Nat) (p':Nat×AV),r'[j]?=some p'->∃p,r[j]?=some p/\le p.2 p'.2:=by
 induction h with
 | nil=>intro j p' h;simp at h
 | cons hl _ ih=>
  intro j p' h;cases j with
  | zero=>simp at h;subst h;exact⟨_,rfl,hl⟩
  | succ j=>simpa using ih j p' (by simpa using h)
section
variable {P : Program} {ds : List (Option Tmp)} {r : List Oper} {n : Nat} {e : Nat -> AV} {st : List Row} {ty : TypeId} {ps : String} {ed : Array Edge} {t : Tmp} {gd : Option (Nat × Bool)} {KS : St -> Prop}
variable {α : Type} {l : List α} {enc : α -> List AV} {el T : TypeId} {size bytes : Nat} {zz cs : List AV}
theorem jy {len:Nat}{parts:Array (Nat×Operand)}{pv pv':List (Nat×AV)}(hg:GO ds gd e)(he:Cj P T=some ⟨el,size,bytes,zz⟩)(hle:len*size<=16777216)(hp:(parts.toList.map λp=>(p.1,St.ev ⟨n,e,st⟩ p.2))=pv)
  (xh:(pv.all λp=>flat p.2)=true) (uq:PL pv pv') (hc:OF (λi=>some (i*size,size)) ((List.replicate len zz).flatten) pv'=some cs) (hck:chunk size len cs=l.map enc) (zW:len=l.length) (hpu:G1 (l.map enc))
  (hk:Di P (ds++[some t]) r KS ⟨n,FY e t (.sl (l.map enc)),st⟩):Di P ds (⟨some t,.buildSlice T len parts,ty,ps,ed,gd⟩::r) KS ⟨n,e,st⟩:=by
 refine eZ hg rfl (λs0 e1 e2 hd k F os a w hr next Q hn=>?_) hk;have yb:(parts.toList.map λp=>(p.1,s0.ev p.2))=pv:=by
  rw[<- hp];refine mj λp wH=>?_;rw[e2 p.2 (by simp only[Op.operands,pR,mU];exact⟨p,by simpa using wH,rfl⟩)]
 have h9:HG P 0 F [] ⟨s0.n,λ_=>.FN,[]⟩ a w (Instr.buildSlice T len (parts.map λ(i,x)=>(i,a.eval x))) (λx st=>x=.own 0 0 l.length/\st=[⟨0,el,size,l.map enc⟩]):=by
  refine MZ (parts:=pv') hr.bare (Ak _ he ⟨hle,Ak _ hc (by subst zW;rw[hck];exact⟨rfl,rfl⟩)⟩) (by rw[<- uq.fst,<- yb];simp) λi p' up wH wV=>?_;obtain⟨p,hp,hlp⟩:=uq.get i p' wH;refine hlp _ _ _ _ ?_;have xI:flat p.2=true:=mL.1 xh p (mB hp);rw[<- yb]at hp;simp only[mG,mK,pP]at hp wV;obtain⟨q,hq,rfl⟩:=hp;obtain⟨q',uu,rfl⟩:=wV;rw[hq]at uu;cases uu;exact Mw xI [] (hr.ev _)
 obtain⟨u,w',F',g1,g2,g3,g4⟩:=Lf (k:=k) hr h9 (R6 hpu) rfl;unfold Oper.wp;simp only[execOp,nA,g1,mw,nY,Oper.upon];exact hn _ _ (ND (st':=s0.st) hd rfl g2 g3 g4)
end
end Go.Abs
namespace Go.Abs
open Go
section
variable {F : Nat -> Prop} {os : List Own} {s : St} {a : Act} {w : World} {k : Nat}
theorem Rel.Y6 (hr:Rel F os s a w){id:Nat}{o:Own}(ho:os[id]?=some o){cs cs':List AV}(hx:o.row.xs=[cs])(hlen:cs'.length=cs.length)(ri :∀c∈cs',c.leaf=true)
  (hm :∀(j:Nat) c c' u,cs[j]?=some c->cs'[j]?=some c'->Ae F w os c u->Ae F w os c' u) :
  Rel F (os.set id ⟨{ o.row with xs:=[cs'] },o.DM,o.cap,o.more⟩) { s with st:=(os.set id ⟨{ o.row with xs:=[cs'] },o.DM,o.cap,o.more⟩).map Own.row } a w/\Ext F os w F (os.set id ⟨{ o.row with xs:=[cs'] },o.DM,o.cap,o.more⟩) w k:=by
 have rJ:=(mC.1 ho).1;have rq:Ex os (os.set id ⟨{ o.row with xs:=[cs'] },o.DM,o.cap,o.more⟩):=Ex.set ho (mS _) rfl λ_=>⟨rfl,rfl,by simp[hx]⟩;have rD:∀(i:Nat) (oi:Own),(os.set id ⟨{ o.row with xs:=[cs'] },o.DM,o.cap,o.more⟩)[i]?=some oi->(i≠id/\os[i]?=some oi)∨(i=id/\oi=⟨{ o.row with xs:=[cs'] },o.DM,o.cap,o.more⟩):=λi oi hi=>by
  by_cases e:i=id
  ·subst e;rw[mN rJ]at hi;exact .inr ⟨rfl,by simpa using hi.symm⟩
  ·rw[mT (nm e)]at hi;exact .inl ⟨e,hi⟩
 have qu:=hr.rows id o ho;have h:=hr.Xl (k:=k) (G7.refl w none) (by simp) rq (λi oi hi=>by
   rcases rD i oi hi with ⟨_,h⟩|⟨_,rfl⟩
   ·exact .inl ⟨h,by simp⟩
   ·refine .inr ⟨qu.pos,λx tu=>?_,λhb=>?_,λb hb=>?_,qu.mo,Fv λx tu=>by
     simp only[mv]at tu;subst tu;exact ri⟩
    ·simp only[mv]at tu;subst tu;exact⟨hlen.trans (qu.lens cs (by rw[hx];simp)).1,λc hc=>Dr (ri c hc)⟩
    ·have:=(qu.none hb).1;rw[hx]at this;cases this
    ·obtain⟨h1,cur,h2,h3,h4,h5,h6⟩:=qu.some b hb;refine⟨h1,cur,h2,h3,by rw[hx]at h4;exact h4,h5,λi x hxi j c hc=>?_⟩;cases i with
     | succ i=>simp at hxi
     | zero=>
      simp only[me,mE]at hxi;subst hxi;have hj:j<cs.length:=by rw[<- hlen];exact (mC.1 hc).1
      obtain⟨u,e1,e2⟩:=h6 0 cs (by rw[hx];rfl) j _ (mH hj);exact⟨u,e1,EJ (λ_ h=>h) (λ_ _=>rfl) os _ rq c u (hm j _ c u (mH hj) hc e2)⟩)
  (λi j oi oj g hi hj uQ uR=>by
   rcases rD i oi hi with ⟨h,h'⟩|⟨rfl,rfl⟩<;>rcases rD j oj hj with ⟨g1,g2⟩|⟨g1,rfl⟩
   ·exact hr.inj i j oi oj g h' g2 uQ uR
   ·subst g1;exact absurd (hr.inj i j oi o g h' ho uQ uR) h
   ·exact absurd (hr.inj i j o oj g ho g2 uQ uR).symm g1
   ·exact g1.symm)
  (λo' rW g hg=>by
   obtain⟨i,hi⟩:=List.getElem?_of_mem rW;rcases rD i o' hi with ⟨_,h⟩|⟨_,rfl⟩
   ·exact .inr ⟨o',mB h,hg⟩
   ·exact .inr ⟨o,mB ho,hg⟩)
  (by simp)
 exact⟨h.1,h.2.1⟩
theorem Y4.get:∀{xs ys:List AV},Y4 xs ys->xs.length=ys.length/\∀(j:Nat) x y,xs[j]?=some x->ys[j]?=some y->le x y
 | [],[],_=>⟨rfl,λj x y h=>by simp at h⟩
 | x::xs,y::ys,h=>by
  obtain⟨h1,h2⟩:=Y4.get h.2;refine⟨by simp[h1],λj a b ha hb=>?_⟩;cases j with
  | zero=>simp at ha hb;subst ha;subst hb;exact h.1
  | succ j=>exact h2 j a b (by simpa using ha) (by simpa using hb)
theorem Ha {id g size:Nat}{el:TypeId}{cs cs':List AV}{n:Nat}{e:Nat->AV}{st st':List Row}(qo:st[id]?=some ⟨g,el,size,[cs]⟩)(hl:Y4 cs cs')(td:cs'.all AV.leaf=true)(rH:st.set id ⟨g,el,size,[cs']⟩=st'):Wk k ⟨n,e,st⟩ ⟨n,e,st'⟩:=λF os a w hr=>by
 subst rH;obtain⟨o,ho,hor⟩:=hr.row qo;obtain⟨h1,h2⟩:=hl.get;obtain⟨g1,g2⟩:=hr.Y6 (k:=k) ho (cs:=cs) (cs':=cs') (by rw[hor]) h1.symm (λc hc=>mL.1 td c hc) λj c c' u hc vM hu=>h2 j c c' hc vM F w os u hu;refine⟨F,_,?_,g2⟩;have e1:(os.set id ⟨{ o.row with xs:=[cs'] },o.DM,o.cap,o.more⟩).map Own.row=st.set id ⟨g,el,size,[cs']⟩:=by
  rw[nt,hor,show os.map Own.row=st from hr.st]
 rw[e1]at g1;exact g1
theorem HR {id g size m:Nat}{el:TypeId}{cs cs':List AV}{n j:Nat}{e:Nat->AV}{st st':List Row}(qo:st[id]?=some ⟨g,el,size,[cs]⟩)(hj:cs[j]?=some .zc)(e':TypeId){size':Nat}(ru:0<size')(hm:st.length=m)(sQ:cs.set j (.own m 0 0)=cs')
  (td:cs.all AV.leaf=true) (rH:st.set id ⟨g,el,size,[cs']⟩++[⟨0,e',size',[]⟩]=st'):Wk k ⟨n,e,st⟩ ⟨n,e,st'⟩:=λF os a w hr=>by
 subst rH;subst sQ;subst hm;obtain⟨o,ho,hor⟩:=hr.row qo;obtain⟨h1,h2,_⟩:=hr.WC (k:=k) (e:=e') ru;have rJ:=(mC.1 ho).1;have rH:os.map Own.row=st:=hr.st;have hol:os.length=st.length:=by rw[<- rH];simp
 have vG:(os++[(⟨⟨0,e',size',[]⟩,none,0,Fj⟩:Own)])[id]?=some o:=by rw[mM rJ];exact ho
 obtain⟨g1,g2⟩:=h1.Y6 (k:=k) vG (cs:=cs) (cs':=cs.set j (.own st.length 0 0)) (by rw[hor]) (by simp) (λc hc=>by
   rcases nW hc with h|rfl
   ·exact mL.1 td c h
   ·rfl) λi c c' u hc vM hu=>by
  by_cases e:i=j
  ·subst e;rw[hj]at hc;cases hc;rw[mN (mC.1 hj).1]at vM;cases vM;simp only[Ae]at hu⊢;obtain⟨ad,rfl⟩:=hu;exact⟨⟨⟨0,e',size',[]⟩,none,0,Fj⟩,by rw[<- hol];exact Je _ _,mS _,⟨_,_,_,rfl⟩,λ_=>⟨mV _,.inl ⟨rfl,ad,rfl⟩⟩⟩
  ·rw[mT (nm e),hc]at vM;cases vM;exact hu
 refine⟨F,_,?_,h2.trans g2⟩;have e1:((os++[(⟨⟨0,e',size',[]⟩,none,0,Fj⟩:Own)]).set id ⟨{ o.row with xs:=[cs.set j (.own st.length 0 0)] },o.DM,o.cap,o.more⟩).map Own.row=st.set id ⟨g,el,size,[cs.set j (.own st.length 0 0)]⟩++[⟨0,e',size',[]⟩]:=by
  rw[nt,mu,rH,hor,List.set_append_left]
  ·rfl
  ·have:id<st.length:=by rw[<- hol];exact rJ
   exact this
 rw[e1]at g1;exact g1
end
end Go.Abs
