import Derived.Test.YtccficmcdkcpnaaGreatAbsV
set_option linter.all false
namespace Go.Abs
open Go
inductive PL:List (Nat×AV)->List (Nat×AV)->Prop where
 | nil:PL [] []
 | cons {i:Nat} {a b:AV} {r r':List (Nat×AV)}:le a b->PL r r'->PL ((i,a)::r) ((i,b)::r')
theorem PL.fst {r r':List (Nat×AV)}(h:PL r r'):r.map (·.1)=r'.map (·.1):=by
 induction h with
 | nil=>rfl
 | cons _ _ ih=>simp[ih]
theorem PL.get {r r':List (Nat×AV)}(h:PL r r'):∀(j:Nat) (p':Nat×AV),r'[j]?=some p'->∃p,r[j]?=some p/\le p.2 p'.2:=by
 induction h with
 | nil=>intro j p' h;simp at h
 | cons hl _ ih=>
  intro j p' h;cases j with
  | zero=>simp at h;subst h;exact⟨_,rfl,hl⟩
  | succ j=>simpa using ih j p' (by simpa using h)
section
variable {P : Program} {ds : List (Option Tmp)} {r : List Oper} {n : Nat} {e : Nat -> AV} {st : List Row} {ty : TypeId} {ps : String} {ed : Array Edge} {t : Tmp} {gd : Option (Nat × Bool)} {KS : St -> Prop}
variable {α : Type} {l : List α} {enc : α -> List AV} {el T : TypeId} {size bytes : Nat} {zz cs : List AV}
theorem kU {len:Nat}{parts:Array (Nat×Operand)}{pv pv':List (Nat×AV)}(hg:GO ds gd e)(he:CH P T=some ⟨el,size,bytes,zz⟩)(hle:len*size<=16777216)(hp:(parts.toList.map λp=>(p.1,St.ev ⟨n,e,st⟩ p.2))=pv)
  (xe:(pv.all λp=>flat p.2)=true) (vn:PL pv pv') (hc:NB (λi=>some (i*size,size)) ((List.replicate len zz).flatten) pv'=some cs) (hck:chunk size len cs=l.map enc) (zI:len=l.length) (hpu:F9 (l.map enc))
  (hk:DI P (ds++[some t]) r KS ⟨n,Ew e t (.sl (l.map enc)),st⟩):DI P ds (⟨some t,.buildSlice T len parts,ty,ps,ed,gd⟩::r) KS ⟨n,e,st⟩:=by
 refine da hg rfl (λs0 e1 e2 hd k F os a w hr next Q hn=>?_) hk;have yN:(parts.toList.map λp=>(p.1,s0.ev p.2))=pv:=by
  rw[<- hp];refine nD λp wS=>?_;rw[e2 p.2 (by simp only[Op.operands,qA,mu];exact⟨p,by simpa using wS,rfl⟩)]
 have h9:GV P 0 F [] ⟨s0.n,λ_=>.FQ,[]⟩ a w (Instr.buildSlice T len (parts.map λ(i,x)=>(i,a.eval x))) (λx st=>x=.own 0 0 l.length/\st=[⟨0,el,size,l.map enc⟩]):=by
  refine La (parts:=pv') hr.bare (Ai _ he ⟨hle,Ai _ hc (by subst zI;rw[hck];exact⟨rfl,rfl⟩)⟩) (by rw[<- vn.fst,<- yN];simp) λi p' up wS wj=>?_;obtain⟨p,hp,hlp⟩:=vn.get i p' wS;refine hlp _ _ _ _ ?_;have xN:flat p.2=true:=ma.1 xe p (mS hp);rw[<- yN]at hp;simp only[mX,mZ,px]at hp wj;obtain⟨q,hq,rfl⟩:=hp;obtain⟨q',uU,rfl⟩:=wj;rw[hq]at uU;cases uU;exact Lu xN [] (hr.ev _)
 obtain⟨u,w',F',g1,g2,g3,g4⟩:=KP (k:=k) hr h9 (RM hpu) rfl;unfold Oper.wp;simp only[execOp,nU,g1,nR,nq,Oper.upon];exact hn _ _ (LG (st':=s0.st) hd rfl g2 g3 g4)
end
end Go.Abs
namespace Go.Abs
open Go
section
variable {F : Nat -> Prop} {os : List Own} {s : St} {a : Act} {w : World} {k : Nat}
theorem Rel.ZC (hr:Rel F os s a w){id:Nat}{o:Own}(ho:os[id]?=some o){cs cs':List AV}(hx:o.row.xs=[cs])(hlen:cs'.length=cs.length)(sL :∀c∈cs',c.leaf=true)
  (hm :∀(j:Nat) c c' u,cs[j]?=some c->cs'[j]?=some c'->AU F w os c u->AU F w os c' u) :
  Rel F (os.set id ⟨{ o.row with xs:=[cs'] },o.E1,o.cap,o.more⟩) { s with st:=(os.set id ⟨{ o.row with xs:=[cs'] },o.E1,o.cap,o.more⟩).map Own.row } a w/\Ext F os w F (os.set id ⟨{ o.row with xs:=[cs'] },o.E1,o.cap,o.more⟩) w k:=by
 have rh:=(mT.1 ho).1;have sP:DX os (os.set id ⟨{ o.row with xs:=[cs'] },o.E1,o.cap,o.more⟩):=DX.set ho (ml _) rfl λ_=>⟨rfl,rfl,by simp[hx]⟩;have rb:∀(i:Nat) (oi:Own),(os.set id ⟨{ o.row with xs:=[cs'] },o.E1,o.cap,o.more⟩)[i]?=some oi->(i≠id/\os[i]?=some oi)∨(i=id/\oi=⟨{ o.row with xs:=[cs'] },o.E1,o.cap,o.more⟩):=λi oi hi=>by
  by_cases e:i=id
  ·subst e;rw[mc rh]at hi;exact .inr ⟨rfl,by simpa using hi.symm⟩
  ·rw[mq (oT e)]at hi;exact .inl ⟨e,hi⟩
 have rR:=hr.rows id o ho;have h:=hr.V9 (k:=k) (GG.refl w none) (by simp) sP (λi oi hi=>by
   rcases rb i oi hi with ⟨_,h⟩|⟨_,rfl⟩
   ·exact .inl ⟨h,by simp⟩
   ·refine .inr ⟨rR.pos,λx uM=>?_,λhb=>?_,λb hb=>?_,rR.mo,Fq λx uM=>by
     simp only[nQ]at uM;subst uM;exact sL⟩
    ·simp only[nQ]at uM;subst uM;exact⟨hlen.trans (rR.lens cs (by rw[hx];simp)).1,λc hc=>Ci (sL c hc)⟩
    ·have:=(rR.none hb).1;rw[hx]at this;cases this
    ·obtain⟨h1,cur,h2,h3,h4,h5,h6⟩:=rR.some b hb;refine⟨h1,cur,h2,h3,by rw[hx]at h4;exact h4,h5,λi x hxi j c hc=>?_⟩;cases i with
     | succ i=>simp at hxi
     | zero=>
      simp only[mw,mU]at hxi;subst hxi;have hj:j<cs.length:=by rw[<- hlen];exact (mT.1 hc).1
      obtain⟨u,e1,e2⟩:=h6 0 cs (by rw[hx];rfl) j _ (mY hj);exact⟨u,e1,Cy (λ_ h=>h) (λ_ _=>rfl) os _ sP c u (hm j _ c u (mY hj) hc e2)⟩)
  (λi j oi oj g hi hj vG vH=>by
   rcases rb i oi hi with ⟨h,h'⟩|⟨rfl,rfl⟩<;>rcases rb j oj hj with ⟨g1,g2⟩|⟨g1,rfl⟩
   ·exact hr.inj i j oi oj g h' g2 vG vH
   ·subst g1;exact absurd (hr.inj i j oi o g h' ho vG vH) h
   ·exact absurd (hr.inj i j o oj g ho g2 vG vH).symm g1
   ·exact g1.symm)
  (λo' sA g hg=>by
   obtain⟨i,hi⟩:=oH sA;rcases rb i o' hi with ⟨_,h⟩|⟨_,rfl⟩
   ·exact .inr ⟨o',mS h,hg⟩
   ·exact .inr ⟨o,mS ho,hg⟩)
  (by simp)
 exact⟨h.1,h.2.1⟩
theorem X5.get:∀{xs ys:List AV},X5 xs ys->xs.length=ys.length/\∀(j:Nat) x y,xs[j]?=some x->ys[j]?=some y->le x y
 | [],[],_=>⟨rfl,λj x y h=>by simp at h⟩
 | x::xs,y::ys,h=>by
  obtain⟨h1,h2⟩:=X5.get h.2;refine⟨by simp[h1],λj a b ha hb=>?_⟩;cases j with
  | zero=>simp at ha hb;subst ha;subst hb;exact h.1
  | succ j=>exact h2 j a b (by simpa using ha) (by simpa using hb)
theorem Iq {id g size:Nat}{el:TypeId}{cs cs':List AV}{n:Nat}{e:Nat->AV}{st st':List Row}(rK:st[id]?=some ⟨g,el,size,[cs]⟩)(hl:X5 cs cs')(uP:cs'.all AV.leaf=true)(ra:st.set id ⟨g,el,size,[cs']⟩=st'):Wk k ⟨n,e,st⟩ ⟨n,e,st'⟩:=λF os a w hr=>by
 subst ra;obtain⟨o,ho,hor⟩:=hr.row rK;obtain⟨h1,h2⟩:=hl.get;obtain⟨g1,g2⟩:=hr.ZC (k:=k) ho (cs:=cs) (cs':=cs') (by rw[hor]) h1.symm (λc hc=>ma.1 uP c hc) λj c c' u hc vi hu=>h2 j c c' hc vi F w os u hu;refine⟨F,_,?_,g2⟩;have e1:(os.set id ⟨{ o.row with xs:=[cs'] },o.E1,o.cap,o.more⟩).map Own.row=st.set id ⟨g,el,size,[cs']⟩:=by
  rw[oR,hor,show os.map Own.row=st from hr.st]
 rw[e1]at g1;exact g1
theorem Jn {id g size m:Nat}{el:TypeId}{cs cs':List AV}{n j:Nat}{e:Nat->AV}{st st':List Row}(rK:st[id]?=some ⟨g,el,size,[cs]⟩)(hj:cs[j]?=some .zc)(e':TypeId){size':Nat}(sQ:0<size')(hm:st.length=m)(tD:cs.set j (.own m 0 0)=cs')
  (uP:cs.all AV.leaf=true) (ra:st.set id ⟨g,el,size,[cs']⟩++[⟨0,e',size',[]⟩]=st'):Wk k ⟨n,e,st⟩ ⟨n,e,st'⟩:=λF os a w hr=>by
 subst ra;subst tD;subst hm;obtain⟨o,ho,hor⟩:=hr.row rK;obtain⟨h1,h2,_⟩:=hr.VU (k:=k) (e:=e') sQ;have rh:=(mT.1 ho).1;have ra:os.map Own.row=st:=hr.st;have hol:os.length=st.length:=by rw[<- ra];simp
 have vR:(os++[(⟨⟨0,e',size',[]⟩,none,0,FI⟩:Own)])[id]?=some o:=by rw[mg rh];exact ho
 obtain⟨g1,g2⟩:=h1.ZC (k:=k) vR (cs:=cs) (cs':=cs.set j (.own st.length 0 0)) (by rw[hor]) (by simp) (λc hc=>by
   rcases nd hc with h|rfl
   ·exact ma.1 uP c h
   ·rfl) λi c c' u hc vi hu=>by
  by_cases e:i=j
  ·subst e;rw[hj]at hc;cases hc;rw[mc (mT.1 hj).1]at vi;cases vi;simp only[AU]at hu⊢;obtain⟨ad,rfl⟩:=hu;exact⟨⟨⟨0,e',size',[]⟩,none,0,FI⟩,by rw[<- hol];exact IL _ _,ml _,⟨_,_,_,rfl⟩,λ_=>⟨mi _,.inl ⟨rfl,ad,rfl⟩⟩⟩
  ·rw[mq (oT e),hc]at vi;cases vi;exact hu
 refine⟨F,_,?_,h2.trans g2⟩;have e1:((os++[(⟨⟨0,e',size',[]⟩,none,0,FI⟩:Own)]).set id ⟨{ o.row with xs:=[cs.set j (.own st.length 0 0)] },o.E1,o.cap,o.more⟩).map Own.row=st.set id ⟨g,el,size,[cs.set j (.own st.length 0 0)]⟩++[⟨0,e',size',[]⟩]:=by
  rw[oR,oF,ra,hor,List.set_append_left]
  ·rfl
  ·have:id<st.length:=by rw[<- hol];exact rh
   exact this
 rw[e1]at g1;exact g1
end
end Go.Abs
