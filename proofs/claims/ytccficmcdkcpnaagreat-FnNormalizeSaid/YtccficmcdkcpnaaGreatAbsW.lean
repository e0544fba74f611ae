import Derived.Test.YtccficmcdkcpnaaGreatAbsV
set_option linter.all false
namespace Go.Abs
open Go
inductive PL:List (Nat×AV)->List (Nat×AV)->Prop where
 | nil:PL [] []
 | cons {i:Nat} {a b:AV} {r r':List (Nat×AV)}:le a b->PL r r'->PL ((i,a)::r) ((i,b)::r')
theorem PL.fst {r r':List (Nat×AV)}(h:PL r r'):r.map (·.1)=r'.map (·.1):=by
 induction h with
 | nil=>rfl
 | cons _ _ ih=>simp[ih]
theorem PL.get {r r':List (Nat×AV)}(h:PL r r'):∀(j:Nat) (p':Nat×AV),r'[j]?=some p'->∃p,r[j]?=some p/\le p.2 p'.2:=by
 induction h with
 | nil=>intro j p' h;simp at h
 | cons hl _ ih=>
  intro j p' h;cases j with
  | zero=>simp at h;subst h;exact⟨_,rfl,hl⟩
  | succ j=>simpa using ih j p' (by simpa using h)
section
variable {P : Program} {ds : List (Option Tmp)} {r : List Oper} {n : Nat} {e : Nat -> AV} {st : List Row} {ty : TypeId} {ps : String} {ed : Array Edge} {t : Tmp} {gd : Option (Nat × Bool)} {KS : St -> Prop}
variable {α : Type} {l : List α} {enc : α -> List AV} {el T : TypeId} {size bytes : Nat} {zz cs : List AV}
theorem np {len:Nat}{parts:Array (Nat×Operand)}{pv pv':List (Nat×AV)}(hg:GO ds gd e)(he:DR P T=some ⟨el,size,bytes,zz⟩)(hle:len*size<=16777216)(hp:(parts.toList.map λp=>(p.1,St.ev ⟨n,e,st⟩ p.2))=pv)
  (hpf:(pv.all λp=>flat p.2)=true) (zD:PL pv pv') (hc:NF (λi=>some (i*size,size)) ((List.replicate len zz).flatten) pv'=some cs) (hck:chunk size len cs=l.map enc) (hln:len=l.length) (hpu:D0 (l.map enc))
  (hk:Dp P (ds++[some t]) r KS ⟨n,Dr e t (.sl (l.map enc)),st⟩):Dp P ds (⟨some t,.buildSlice T len parts,ty,ps,ed,gd⟩::r) KS ⟨n,e,st⟩:=by
 refine eW hg rfl (λs0 e1 e2 hd k F os a w hr next Q hn=>?_) hk;have hpv:(parts.toList.map λp=>(p.1,s0.ev p.2))=pv:=by
  rw[<- hp];refine qk λp zi=>?_;rw[e2 p.2 (by simp only[Op.operands,tG,qT];exact⟨p,by simpa using zi,rfl⟩)]
 have h9:Iu P 0 F [] ⟨s0.n,λ_=>.FZ,[]⟩ a w (Instr.buildSlice T len (parts.map λ(i,x)=>(i,a.eval x))) (λx st=>x=.own 0 0 l.length/\st=[⟨0,el,size,l.map enc⟩]):=by
  refine Np (parts:=pv') hr.bare (An _ he ⟨hle,An _ hc (by subst hln;rw[hck];exact⟨rfl,rfl⟩)⟩) (by rw[<- zD.fst,<- hpv];simp) λi p' up zi hup=>?_;obtain⟨p,hp,hlp⟩:=zD.get i p' zi;refine hlp _ _ _ _ ?_;have yP:flat p.2=true:=qC.1 hpf p (pt hp);rw[<- hpv]at hp;simp only[qA,qB,tF]at hp hup;obtain⟨q,hq,rfl⟩:=hp;obtain⟨q',hq',rfl⟩:=hup;rw[hq]at hq';cases hq';exact J1 yP [] (hr.ev _)
 obtain⟨u,w',F',g1,g2,g3,g4⟩:=Mu (k:=k) hr h9 (Tu hpu) rfl;unfold Oper.wp;simp only[execOp,qs,g1,qp,rH,Oper.upon];exact hn _ _ (Od (st':=s0.st) hd rfl g2 g3 g4)
end
end Go.Abs
namespace Go.Abs
open Go
section
variable {F : Nat -> Prop} {os : List Own} {s : St} {a : Act} {w : World} {k : Nat}
theorem Rel.dR (hr:Rel F os s a w){id:Nat}{o:Own}(ho:os[id]?=some o){cs cs':List AV}(hx:o.row.xs=[cs])(hlen:cs'.length=cs.length)(vm :∀c∈cs',c.leaf=true)
  (hm :∀(j:Nat) c c' u,cs[j]?=some c->cs'[j]?=some c'->Ac F w os c u->Ac F w os c' u) :
  Rel F (os.set id ⟨{ o.row with xs:=[cs'] },o.GB,o.cap,o.more⟩) { s with st:=(os.set id ⟨{ o.row with xs:=[cs'] },o.GB,o.cap,o.more⟩).map Own.row } a w/\Ext F os w F (os.set id ⟨{ o.row with xs:=[cs'] },o.GB,o.cap,o.more⟩) w k:=by
 have vS:=(px.1 ho).1;have vq:F8 os (os.set id ⟨{ o.row with xs:=[cs'] },o.GB,o.cap,o.more⟩):=F8.set ho (qU _) rfl λ_=>⟨rfl,rfl,by simp[hx]⟩;have vJ:∀(i:Nat) (oi:Own),(os.set id ⟨{ o.row with xs:=[cs'] },o.GB,o.cap,o.more⟩)[i]?=some oi->(i≠id/\os[i]?=some oi)∨(i=id/\oi=⟨{ o.row with xs:=[cs'] },o.GB,o.cap,o.more⟩):=λi oi hi=>by
  by_cases e:i=id
  ·subst e;rw[qI vS]at hi;exact .inr ⟨rfl,by simpa using hi.symm⟩
  ·rw[qZ (rX e)]at hi;exact .inl ⟨e,hi⟩
 have vF:=hr.rows id o ho;have h:=hr.Z2 (k:=k) (Iy.refl w none) (by simp) vq (λi oi hi=>by
   rcases vJ i oi hi with ⟨_,h⟩|⟨_,rfl⟩
   ·exact .inl ⟨h,by simp⟩
   ·refine .inr ⟨vF.pos,λx zG=>?_,λhb=>?_,λb hb=>?_,vF.mo,E7 λx zG=>by
     simp only[qO]at zG;subst zG;exact vm⟩
    ·simp only[qO]at zG;subst zG;exact⟨hlen.trans (vF.lens cs (by rw[hx];simp)).1,λc hc=>Du (vm c hc)⟩
    ·have:=(vF.none hb).1;rw[hx]at this;cases this
    ·obtain⟨h1,cur,h2,h3,h4,h5,h6⟩:=vF.some b hb;refine⟨h1,cur,h2,h3,by rw[hx]at h4;exact h4,h5,λi x hxi j c hc=>?_⟩;cases i with
     | succ i=>simp at hxi
     | zero=>
      simp only[qg,pz]at hxi;subst hxi;have hj:j<cs.length:=by rw[<- hlen];exact (px.1 hc).1
      obtain⟨u,e1,e2⟩:=h6 0 cs (by rw[hx];rfl) j _ (qD hj);exact⟨u,e1,Ds (λ_ h=>h) (λ_ _=>rfl) os _ vq c u (hm j _ c u (qD hj) hc e2)⟩)
  (λi j oi oj g hi hj zy hgj=>by
   rcases vJ i oi hi with ⟨h,h'⟩|⟨rfl,rfl⟩<;>rcases vJ j oj hj with ⟨g1,g2⟩|⟨g1,rfl⟩
   ·exact hr.inj i j oi oj g h' g2 zy hgj
   ·subst g1;exact absurd (hr.inj i j oi o g h' ho zy hgj) h
   ·exact absurd (hr.inj i j o oj g ho g2 zy hgj).symm g1
   ·exact g1.symm)
  (λo' vc g hg=>by
   obtain⟨i,hi⟩:=List.getElem?_of_mem vc;rcases vJ i o' hi with ⟨_,h⟩|⟨_,rfl⟩
   ·exact .inr ⟨o',pt h,hg⟩
   ·exact .inr ⟨o,pt ho,hg⟩)
  (by simp)
 exact⟨h.1,h.2.1⟩
theorem bE.get:∀{xs ys:List AV},bE xs ys->xs.length=ys.length/\∀(j:Nat) x y,xs[j]?=some x->ys[j]?=some y->le x y
 | [],[],_=>⟨rfl,λj x y h=>by simp at h⟩
 | x::xs,y::ys,h=>by
  obtain⟨h1,h2⟩:=bE.get h.2;refine⟨by simp[h1],λj a b ha hb=>?_⟩;cases j with
  | zero=>simp at ha hb;subst ha;subst hb;exact h.1
  | succ j=>exact h2 j a b (by simpa using ha) (by simpa using hb)
theorem Hk {id g size:Nat}{el:TypeId}{cs cs':List AV}{n:Nat}{e:Nat->AV}{st st':List Row}(uj:st[id]?=some ⟨g,el,size,[cs]⟩)(hl:bE cs cs')(vw:cs'.all AV.leaf=true)(vX:st.set id ⟨g,el,size,[cs']⟩=st'):Wk k ⟨n,e,st⟩ ⟨n,e,st'⟩:=λF os a w hr=>by
 subst vX;obtain⟨o,ho,hor⟩:=hr.row uj;obtain⟨h1,h2⟩:=hl.get;obtain⟨g1,g2⟩:=hr.dR (k:=k) ho (cs:=cs) (cs':=cs') (by rw[hor]) h1.symm (λc hc=>qC.1 vw c hc) λj c c' u hc yY hu=>h2 j c c' hc yY F w os u hu;refine⟨F,_,?_,g2⟩;have e1:(os.set id ⟨{ o.row with xs:=[cs'] },o.GB,o.cap,o.more⟩).map Own.row=st.set id ⟨g,el,size,[cs']⟩:=by
  rw[rh,hor,show os.map Own.row=st from hr.st]
 rw[e1]at g1;exact g1
theorem Jf {id g size m:Nat}{el:TypeId}{cs cs':List AV}{n j:Nat}{e:Nat->AV}{st st':List Row}(uj:st[id]?=some ⟨g,el,size,[cs]⟩)(hj:cs[j]?=some .zc)(e':TypeId){size':Nat}(ve:0<size')(hm:st.length=m)(xV:cs.set j (.own m 0 0)=cs')
  (vw:cs.all AV.leaf=true) (vX:st.set id ⟨g,el,size,[cs']⟩++[⟨0,e',size',[]⟩]=st'):Wk k ⟨n,e,st⟩ ⟨n,e,st'⟩:=λF os a w hr=>by
 subst vX;subst xV;subst hm;obtain⟨o,ho,hor⟩:=hr.row uj;obtain⟨h1,h2,_⟩:=hr.Xj (k:=k) (e:=e') ve;have vS:=(px.1 ho).1;have vX:os.map Own.row=st:=hr.st;have hol:os.length=st.length:=by rw[<- vX];simp
 have zk:(os++[(⟨⟨0,e',size',[]⟩,none,0,Ga⟩:Own)])[id]?=some o:=by rw[qK vS];exact ho
 obtain⟨g1,g2⟩:=h1.dR (k:=k) zk (cs:=cs) (cs':=cs.set j (.own st.length 0 0)) (by rw[hor]) (by simp) (λc hc=>by
   rcases rB hc with h|rfl
   ·exact qC.1 vw c h
   ·rfl) λi c c' u hc yY hu=>by
  by_cases e:i=j
  ·subst e;rw[hj]at hc;cases hc;rw[qI (px.1 hj).1]at yY;cases yY;simp only[Ac]at hu⊢;obtain⟨ad,rfl⟩:=hu;exact⟨⟨⟨0,e',size',[]⟩,none,0,Ga⟩,by rw[<- hol];exact KU _ _,qU _,⟨_,_,_,rfl⟩,λ_=>⟨qd _,.inl ⟨rfl,ad,rfl⟩⟩⟩
  ·rw[qZ (rX e),hc]at yY;cases yY;exact hu
 refine⟨F,_,?_,h2.trans g2⟩;have e1:((os++[(⟨⟨0,e',size',[]⟩,none,0,Ga⟩:Own)]).set id ⟨{ o.row with xs:=[cs.set j (.own st.length 0 0)] },o.GB,o.cap,o.more⟩).map Own.row=st.set id ⟨g,el,size,[cs.set j (.own st.length 0 0)]⟩++[⟨0,e',size',[]⟩]:=by
  rw[rh,rM,vX,hor,List.set_append_left]
  ·rfl
  ·have:id<st.length:=by rw[<- hol];exact vS
   exact this
 rw[e1]at g1;exact g1
end
end Go.Abs
