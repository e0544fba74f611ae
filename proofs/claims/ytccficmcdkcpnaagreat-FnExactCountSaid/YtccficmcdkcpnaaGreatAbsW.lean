import Derived.Test.YtccficmcdkcpnaaGreatAbsV
set_option linter.all false
namespace Go.Abs
open Go
inductive PL:List (Nat×AV)->List (Nat×AV)->Prop where
 | nil:PL [] []
 | cons {i:Nat} {a b:AV} {r r':List (Nat×AV)}:le a b->PL r r'->PL ((i,a)::r) ((i,b)::r')
theorem PL.fst {r r':List (Nat×AV)}(h:PL r r'):r.map (·.1)=r'.map (·.1):=by
 induction h with
 | nil=>rfl
 | cons _ _ ih=>simp[ih]
theorem PL.get {r r':List (Nat×AV)}(h:PL r r'):∀(j:Nat) (p':Nat×AV),r'[j]?=some p'->∃p,r[j]?=some p/\le p.2 p'.2:=by
 induction h with
 | nil=>intro j p' h;simp at h
 | cons hl _ ih=>
  intro j p' h;cases j with
  | zero=>simp at h;subst h;exact⟨_,rfl,hl⟩
  | succ j=>simpa using ih j p' (by simpa using h)
section
variable {P : Program} {ds : List (Option Tmp)} {r : List Oper} {n : Nat} {e : Nat -> AV} {st : List Row} {ty : TypeId} {ps : String} {ed : Array Edge} {t : Tmp} {gd : Option (Nat × Bool)} {KS : St -> Prop}
variable {α : Type} {l : List α} {enc : α -> List AV} {el T : TypeId} {size bytes : Nat} {zz cs : List AV}
theorem su {len:Nat}{parts:Array (Nat×Operand)}{pv pv':List (Nat×AV)}(hg:GO ds gd e)(he:Ck P T=some ⟨el,size,bytes,zz⟩)(hle:len*size<=16777216)(hp:(parts.toList.map λp=>(p.1,St.ev ⟨n,e,st⟩ p.2))=pv)
  (hpf:(pv.all λp=>flat p.2)=true) (hpl:PL pv pv') (hc:PJ (λi=>some (i*size,size)) ((List.replicate len zz).flatten) pv'=some cs) (hck:chunk size len cs=l.map enc) (hln:len=l.length) (hpu:Gm (l.map enc))
  (hk:DX P (ds++[some t]) r KS ⟨n,EW e t (.sl (l.map enc)),st⟩):DX P ds (⟨some t,.buildSlice T len parts,ty,ps,ed,gd⟩::r) KS ⟨n,e,st⟩:=by
 refine lB hg rfl (λs0 e1 e2 hd k F os a w hr next Q hn=>?_) hk;have hpv:(parts.toList.map λp=>(p.1,s0.ev p.2))=pv:=by
  rw[<- hp];refine vL λp hp'=>?_;rw[e2 p.2 (by simp only[Op.operands,yA,uw];exact⟨p,by simpa using hp',rfl⟩)]
 have h9:IV P 0 F [] ⟨s0.n,λ_=>.F6,[]⟩ a w (Instr.buildSlice T len (parts.map λ(i,x)=>(i,a.eval x))) (λx st=>x=.own 0 0 l.length/\st=[⟨0,el,size,l.map enc⟩]):=by
  refine Oh (parts:=pv') hr.bare (Am _ he ⟨hle,Am _ hc (by subst hln;rw[hck];exact⟨rfl,rfl⟩)⟩) (by rw[<- hpl.fst,<- hpv];simp) λi p' up hp' hup=>?_;obtain⟨p,hp,hlp⟩:=hpl.get i p' hp';refine hlp _ _ _ _ ?_;have hfl:flat p.2=true:=uS.1 hpf p (uL hp);rw[<- hpv]at hp;simp only[uP,uR,xy]at hp hup;obtain⟨q,hq,rfl⟩:=hp;obtain⟨q',hq',rfl⟩:=hup;rw[hq]at hq';cases hq';exact PA hfl [] (hr.ev _)
 obtain⟨u,w',F',g1,g2,g3,g4⟩:=Nh (k:=k) hr h9 (VH hpu) rfl;unfold Oper.wp;simp only[execOp,vU,g1,vS,vv,Oper.upon];exact hn _ _ (OO (st':=s0.st) hd rfl g2 g3 g4)
end
end Go.Abs
namespace Go.Abs
open Go
section
variable {F : Nat -> Prop} {os : List Own} {s : St} {a : Act} {w : World} {k : Nat}
theorem Rel.gJ (hr:Rel F os s a w){id:Nat}{o:Own}(ho:os[id]?=some o){cs cs':List AV}(hx:o.row.xs=[cs])(hlen:cs'.length=cs.length)(hleaf :∀c∈cs',c.leaf=true)
  (hm :∀(j:Nat) c c' u,cs[j]?=some c->cs'[j]?=some c'->Ae F w os c u->Ae F w os c' u) :
  Rel F (os.set id ⟨{ o.row with xs:=[cs'] },o.Ea,o.cap,o.more⟩) { s with st:=(os.set id ⟨{ o.row with xs:=[cs'] },o.Ea,o.cap,o.more⟩).map Own.row } a w/\Ext F os w F (os.set id ⟨{ o.row with xs:=[cs'] },o.Ea,o.cap,o.more⟩) w k:=by
 have hlt:=(uK.1 ho).1;have hos:Er os (os.set id ⟨{ o.row with xs:=[cs'] },o.Ea,o.cap,o.more⟩):=Er.set ho (uq _) rfl λ_=>⟨rfl,rfl,by simp[hx]⟩;have AAD:∀(i:Nat) (oi:Own),(os.set id ⟨{ o.row with xs:=[cs'] },o.Ea,o.cap,o.more⟩)[i]?=some oi->(i≠id/\os[i]?=some oi)∨(i=id/\oi=⟨{ o.row with xs:=[cs'] },o.Ea,o.cap,o.more⟩):=λi oi hi=>by
  by_cases e:i=id
  ·subst e;rw[uV hlt]at hi;exact .inr ⟨rfl,by simpa using hi.symm⟩
  ·rw[vE (wR e)]at hi;exact .inl ⟨e,hi⟩
 have zp:=hr.rows id o ho;have h:=hr.Z2 (k:=k) (Gt.refl w none) (by simp) hos (λi oi hi=>by
   rcases AAD i oi hi with ⟨_,h⟩|⟨_,rfl⟩
   ·exact .inl ⟨h,by simp⟩
   ·refine .inr ⟨zp.pos,λx hxm=>?_,λhb=>?_,λb hb=>?_,zp.mo,Fz λx hxm=>by
     simp only[vQ]at hxm;subst hxm;exact hleaf⟩
    ·simp only[vQ]at hxm;subst hxm;exact⟨hlen.trans (zp.lens cs (by rw[hx];simp)).1,λc hc=>DL (hleaf c hc)⟩
    ·have:=(zp.none hb).1;rw[hx]at this;cases this
    ·obtain⟨h1,cur,h2,h3,h4,h5,h6⟩:=zp.some b hb;refine⟨h1,cur,h2,h3,by rw[hx]at h4;exact h4,h5,λi x hxi j c hc=>?_⟩;cases i with
     | succ i=>simp at hxi
     | zero=>
      simp only[vC,uO]at hxi;subst hxi;have hj:j<cs.length:=by rw[<- hlen];exact (uK.1 hc).1
      obtain⟨u,e1,e2⟩:=h6 0 cs (by rw[hx];rfl) j _ (uQ hj);exact⟨u,e1,D8 (λ_ h=>h) (λ_ _=>rfl) os _ hos c u (hm j _ c u (uQ hj) hc e2)⟩)
  (λi j oi oj g hi hj hgi hgj=>by
   rcases AAD i oi hi with ⟨h,h'⟩|⟨rfl,rfl⟩<;>rcases AAD j oj hj with ⟨g1,g2⟩|⟨g1,rfl⟩
   ·exact hr.inj i j oi oj g h' g2 hgi hgj
   ·subst g1;exact absurd (hr.inj i j oi o g h' ho hgi hgj) h
   ·exact absurd (hr.inj i j o oj g ho g2 hgi hgj).symm g1
   ·exact g1.symm)
  (λo' ho' g hg=>by
   obtain⟨i,hi⟩:=List.getElem?_of_mem ho';rcases AAD i o' hi with ⟨_,h⟩|⟨_,rfl⟩
   ·exact .inr ⟨o',uL h,hg⟩
   ·exact .inr ⟨o,uL ho,hg⟩)
  (by simp)
 exact⟨h.1,h.2.1⟩
theorem dJ.get:∀{xs ys:List AV},dJ xs ys->xs.length=ys.length/\∀(j:Nat) x y,xs[j]?=some x->ys[j]?=some y->le x y
 | [],[],_=>⟨rfl,λj x y h=>by simp at h⟩
 | x::xs,y::ys,h=>by
  obtain⟨h1,h2⟩:=dJ.get h.2;refine⟨by simp[h1],λj a b ha hb=>?_⟩;cases j with
  | zero=>simp at ha hb;subst ha;subst hb;exact h.1
  | succ j=>exact h2 j a b (by simpa using ha) (by simpa using hb)
theorem ID {id g size:Nat}{el:TypeId}{cs cs':List AV}{n:Nat}{e:Nat->AV}{st st':List Row}(zh:st[id]?=some ⟨g,el,size,[cs]⟩)(hl:dJ cs cs')(hlf:cs'.all AV.leaf=true)(hst:st.set id ⟨g,el,size,[cs']⟩=st'):Wk k ⟨n,e,st⟩ ⟨n,e,st'⟩:=λF os a w hr=>by
 subst hst;obtain⟨o,ho,hor⟩:=hr.row zh;obtain⟨h1,h2⟩:=hl.get;obtain⟨g1,g2⟩:=hr.gJ (k:=k) ho (cs:=cs) (cs':=cs') (by rw[hor]) h1.symm (λc hc=>uS.1 hlf c hc) λj c c' u hc hc' hu=>h2 j c c' hc hc' F w os u hu;refine⟨F,_,?_,g2⟩;have e1:(os.set id ⟨{ o.row with xs:=[cs'] },o.Ea,o.cap,o.more⟩).map Own.row=st.set id ⟨g,el,size,[cs']⟩:=by
  rw[wb,hor,show os.map Own.row=st from hr.st]
 rw[e1]at g1;exact g1
theorem HU {id g size m:Nat}{el:TypeId}{cs cs':List AV}{n j:Nat}{e:Nat->AV}{st st':List Row}(zh:st[id]?=some ⟨g,el,size,[cs]⟩)(hj:cs[j]?=some .zc)(e':TypeId){size':Nat}(hpos:0<size')(hm:st.length=m)(hcs:cs.set j (.own m 0 0)=cs')
  (hlf:cs.all AV.leaf=true) (hst:st.set id ⟨g,el,size,[cs']⟩++[⟨0,e',size',[]⟩]=st'):Wk k ⟨n,e,st⟩ ⟨n,e,st'⟩:=λF os a w hr=>by
 subst hst;subst hcs;subst hm;obtain⟨o,ho,hor⟩:=hr.row zh;obtain⟨h1,h2,_⟩:=hr.ZX (k:=k) (e:=e') hpos;have hlt:=(uK.1 ho).1;have hst:os.map Own.row=st:=hr.st;have hol:os.length=st.length:=by rw[<- hst];simp
 have ho2:(os++[(⟨⟨0,e',size',[]⟩,none,0,Gb⟩:Own)])[id]?=some o:=by rw[uU hlt];exact ho
 obtain⟨g1,g2⟩:=h1.gJ (k:=k) ho2 (cs:=cs) (cs':=cs.set j (.own st.length 0 0)) (by rw[hor]) (by simp) (λc hc=>by
   rcases vq hc with h|rfl
   ·exact uS.1 hlf c h
   ·rfl) λi c c' u hc hc' hu=>by
  by_cases e:i=j
  ·subst e;rw[hj]at hc;cases hc;rw[uV (uK.1 hj).1]at hc';cases hc';simp only[Ae]at hu⊢;obtain⟨ad,rfl⟩:=hu;exact⟨⟨⟨0,e',size',[]⟩,none,0,Gb⟩,by rw[<- hol];exact LJ _ _,uq _,⟨_,_,_,rfl⟩,λ_=>⟨ue _,.inl ⟨rfl,ad,rfl⟩⟩⟩
  ·rw[vE (wR e),hc]at hc';cases hc';exact hu
 refine⟨F,_,?_,h2.trans g2⟩;have e1:((os++[(⟨⟨0,e',size',[]⟩,none,0,Gb⟩:Own)]).set id ⟨{ o.row with xs:=[cs.set j (.own st.length 0 0)] },o.Ea,o.cap,o.more⟩).map Own.row=st.set id ⟨g,el,size,[cs.set j (.own st.length 0 0)]⟩++[⟨0,e',size',[]⟩]:=by
  rw[wb,vx,hst,hor,List.set_append_left]
  ·rfl
  ·have:id<st.length:=by rw[<- hol];exact hlt
   exact this
 rw[e1]at g1;exact g1
end
end Go.Abs
