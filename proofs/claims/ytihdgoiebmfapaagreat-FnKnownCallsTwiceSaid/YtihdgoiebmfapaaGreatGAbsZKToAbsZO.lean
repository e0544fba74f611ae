import Derived.Test.YtihdgoiebmfapaaGreatGAbsXToAbsZN
set_option linter.all false
namespace Sh
def apart (i j:Int):Option Unit:=if i=j then none else some ()
end Sh
namespace Go.Abs
open Go
section
variable {F : Nat -> Prop} {os : List Own} {s : St} {a : Act} {w : World} {k : Nat}
variable {α β : Type} {l : List α} {enc : α -> List AV}
theorem JA (h :∀y,(enc y).all AV.kept=true):∀z∈l.map enc,z.all AV.kept=true:=λz hz=>by
 obtain⟨y,_,rfl⟩:=gC.1 hz;exact h y
theorem Zo {i:Int}{x:List AV}:(hole l enc i x).length=l.length:=by unfold hole;simp
section
variable {P : Program} {s : St} {x y : Operand} {t el : TypeId} {size bytes id g m : Nat} {zz : List AV} {n i : Int} {kk : IntKind} {u : α} {z : List AV}
theorem TG (he:Dt P t=some ⟨el,size,bytes,zz⟩)(hx:s.ev x=.own id g m)(hy:s.ev y=.int kk n)(hr:s.st[id]?=some ⟨g,el,size,hole l enc i z⟩)(hm:m=l.length)(hg:Sh.get l n=some u):
  AQ P s (.indexAddr t x y) (.ptr id g n.toNat 0):=λK hk=>by
 show Hr P s.st t (s.ev x) (s.ev y) K;rw[hx,hy];subst hm;exact Am _ he ⟨(Sh.get_some hg).1,(Sh.get_some hg).2.2,Am _ hr ⟨rfl,rfl,by simpa [Zo] using hk⟩⟩
end
end
end Go.Abs
namespace Go.Abs
open Go
def ZT (id g N:Nat):AV->AV
 | .own mG g' n=>if mG=id/\g'=g then .own N 0 n else .own mG g' n
 | v=>v
def bM (id g N:Nat):AV->AV
 | .agg cs=>.agg (cs.map (ZT id g N))
 | .Dm cs=>.Dm (cs.map (ZT id g N))
 | v=>ZT id g N v
theorem Wk.de {k n:Nat}{e:Nat->AV}{L:List (Nat×AV)}{st st':List Row}{id g el size N:Nat}{xs:List (List AV)}(lQ:st[id]?=some ⟨g,el,size,xs⟩)(hN:st.length=N)
  (h:ME (λt=>bM id g N (e t)) L) (lp:st.set id ⟨g+1,el,size,[]⟩++[⟨0,el,size,xs⟩]=st'):Wk k ⟨n,e,st⟩ ⟨n,Aa L,st'⟩:=by
 refine Wk.trans (s':=⟨n,λt=>bM id g N (e t),st'⟩) ?_ (Ag h);intro F os a w hr;subst lp;subst hN;obtain⟨o,ho,hor⟩:=hr.row lQ;have lU:=hr.rows id o ho;have hlen:os.length=st.length:=by have:=iE List.length hr.st;simpa using this
 have nQ:=(fe.1 ho).1
 let o1:Own:=⟨{ o.row with gen:=o.row.gen+1,xs:=[] },none,0,FP⟩
 let o2:Own:=⟨{ o.row with gen:=0 },o.Fa,o.cap,o.more⟩
 have lW:∀(i:Nat) (oi:Own),(os.set id o1++[o2])[i]?=some oi->(i≠id/\os[i]?=some oi)∨(i=id/\oi=o1)∨(i=os.length/\oi=o2):=λi oi hi=>by
  by_cases h1:i<os.length
  ·rw[ft (by simpa using h1)]at hi;by_cases h3:i=id
   ·subst h3;rw[fv nQ]at hi;exact .inr (.inl ⟨rfl,by simpa using hi.symm⟩)
   ·rw[gJ (iT h3)]at hi;exact .inl ⟨h3,hi⟩
  ·rw[fw (by simp;omega)]at hi;simp only[kQ]at hi;have:i-os.length<1:=(fe.1 hi).1;have h4:i=os.length:=by omega
   subst h4;simp only[iS,gQ,ff]at hi;exact .inr (.inr ⟨rfl,hi.symm⟩)
 have rC:(os.set id o1++[o2])[st.length]?=some o2:=by rw[<- hlen,fw (by simp)];simp
 have mK:FF os (os.set id o1++[o2]):=λi oi hi=>by
  have hl:=(fe.1 hi).1;rw[ft (by simpa using hl)];by_cases h3:i=id
  ·subst h3;rw[ho]at hi;cases hi;exact⟨o1,by rw[fv nQ],by simp[o1],rfl,λe=>by simp[o1]at e⟩
  ·rw[gJ (iT h3)];exact⟨oi,hi,gA _,rfl,λ_=>⟨rfl,rfl,rfl⟩⟩
 have lY:∀x v,Ae F w os x v->Ae F w (os.set id o1++[o2]) x v:=λx v h=>Dc (λ_ h=>h) (λ_ _=>rfl) os _ mK x v h;have uO:o.row.gen=g:=by rw[hor]
 have h0:∀x v,Ae F w os x v->Ae F w (os.set id o1++[o2]) (ZT id g st.length x) v:=λx v hx=>by
  cases x with
  | own mG g' m=>
   simp only[ZT];split
   ·rename_i sN;obtain⟨rfl,rfl⟩:=sN;simp only[Ae]at hx⊢;obtain⟨o',lz,_,hsh,f3⟩:=hx;rw[ho]at lz;cases lz;obtain⟨f4,f5⟩:=f3 uO;exact⟨o2,rC,gA _,hsh,λ_=>⟨f4,f5⟩⟩
   ·exact lY _ _ hx
  | _=>exact lY _ _ hx
 have hL:∀xs us,Br F w os xs us->Br F w (os.set id o1++[o2]) (xs.map (ZT id g st.length)) us:=λxs us h=>
  DV (by simp[BW h]) λi x u hx hu=>by
   simp only[fg,fp]at hx;obtain⟨y,hy,rfl⟩:=hx;obtain⟨u',e1,e2⟩:=CJ h i y hy;rw[hu]at e1;cases e1;exact h0 _ _ e2
 have tK:∀(i:Nat) (oi:Own) b,(os.set id o1++[o2])[i]?=some oi->oi.owns b->∃(i':Nat) (qd:Own),os[i']?=some qd/\qd.owns b/\((i'=id/\i=os.length)∨(i'≠id/\i=i')):=λi oi b hi hb=>by
  rcases lW i oi hi with ⟨h1,h3⟩|⟨rfl,rfl⟩|⟨rfl,rfl⟩
  ·exact⟨i,oi,h3,hb,.inr ⟨h1,rfl⟩⟩
  ·rcases hb with hb|hb
   ·simp[o1]at hb
   ·exact hb.elim
  ·exact⟨id,o,ho,hb,.inl ⟨rfl,rfl⟩⟩
 have h:=hr.Vd (k:=k) (HN.refl w none) (by simp) mK (λi oi hi=>by
   rcases lW i oi hi with ⟨h1,h3⟩|⟨rfl,rfl⟩|⟨rfl,rfl⟩
   ·exact .inl ⟨h3,by simp⟩
   ·exact .inr ⟨lU.pos,by simp[o1],by simp[o1],by simp[o1],λb hb=>hb.elim,Ef (by simp[o1])⟩
   ·refine .inr ⟨lU.pos,lU.lens,lU.none,λb hb=>?_,lU.mo,lU.deep.keep rfl (λ_ h=>h) rfl (λ_ _=>rfl) (λi' x j' e' s' ys h1 h2=>⟨x,h1,h2⟩)⟩;obtain⟨e1,cur,e2,e3,e4,e5,e6⟩:=lU.some b hb;exact⟨e1,cur,e2,e3,e4,e5,λi' x hx j' c hcj=>by obtain⟨u,f1,f2⟩:=e6 i' x hx j' c hcj;exact⟨u,f1,lY _ _ f2⟩⟩)
  (λi j' oi oj b hi hj nD nE=>by
   obtain⟨i',qd,e1,e2,e3⟩:=tK i oi b hi nD;obtain⟨j'',uz,f1,f2,f3⟩:=tK j' oj b hj nE;have:=hr.inj i' j'' qd uz b e1 f1 e2 f2;subst this;omega)
  (λo' lz b hb=>by
   obtain⟨i,hi⟩:=gG.1 lz;obtain⟨i',qd,e1,e2,_⟩:=tK i o' b hi hb;exact .inr ⟨qd,fc e1,e2⟩)
  (by simp)
 refine⟨F,_,?_,h.2.1⟩;have h1:=h.1;have e1:o1.row=⟨g+1,el,size,[]⟩:=by simp only[o1,hor]
 have e3:o2.row=⟨0,el,size,xs⟩:=by simp only[o2,hor]
 have h2:List.map Own.row (os.set id o1++[o2])=st.set id ⟨g+1,el,size,[]⟩++[⟨0,el,size,xs⟩]:=by
  rw[iD,iX,hr.st,gP,iQ,e1,e3]
 refine⟨h2,λt=>?_,h1.size,h1.rows,h1.inj,h1.GG,h1.defers⟩;have he:=hr.env t;show Ae F w _ (bM id g st.length (e t)) _;simp only at he;generalize e t=x at he⊢;cases x with
 | agg cs=>simp only[bM,Ae]at he⊢;obtain⟨us,e,h⟩:=he;exact⟨us,e,hL _ _ h⟩
 | Dm cs=>simp only[bM,Ae]at he⊢;obtain⟨us,e,h⟩:=he;exact⟨us,e,hL _ _ h⟩
 | _=>exact h0 _ _ he
end Go.Abs
namespace Go.Abs
open Go
section
variable {k : Nat} {α β : Type} {l : List α} {enc : α -> List AV}
theorem LO {id m g size sz nn j:Nat}{el nv:TypeId}{i:Int}{c:α}{ys:List β}{encY:β->List AV}{x x':List AV}{e:Nat->AV}{st st':List Row}(lQ:st[id]?=some ⟨g,el,size,hole l enc i x⟩)(hi:Sh.get l i=some c)(hc:x[j]?=some (.dv nv sz (ys.map encY)))
  (hm:st.length=m) (oO:x.set j (.own m 0 ys.length)=x') (lp:st.set id ⟨g,el,size,hole l enc i x'⟩++[⟨0,nv,sz,ys.map encY⟩]=st'):Wk k ⟨nn,e,st⟩ ⟨nn,e,st'⟩:=
 Nu lQ (Ft hi) hc hm (n:=ys.length) (by simp) (by rw[R8,oO];exact lp)
def Jr (l:List α)(enc:α->List AV)(i:Int)(x:List AV)(j:Int)(y:List AV):List (List AV):=(hole l enc i x).set j.toNat y
theorem YT {i j:Int}{x y:List AV}:(Jr l enc i x j y).length=l.length:=by simp[Jr,hole]
theorem O5 {i j:Int}{u:α}{x y:List AV}(h:Sh.get l j=some u):(Jr l enc i x j y)[j.toNat]?=some y:=by
 have:=(Sh.get_some h).2.2;have h0:=(Sh.get_some h).1;exact fv (by simp[hole];omega)
theorem Jg {i j:Int}{u:α}{x y:List AV}(lv:j.toNat≠i.toNat)(h:Sh.get l i=some u):(Jr l enc i x j y)[i.toNat]?=some x:=by
 unfold Jr;rw[gJ lv];exact Ft h
theorem Wk.cR {id m g size sz nn q:Nat}{el nv:TypeId}{i j:Int}{c:α}{ys:List β}{encY:β->List AV}{x y y':List AV}{e:Nat->AV}{st st':List Row}(lQ:st[id]?=some ⟨g,el,size,hole l enc i x⟩)(hj:Sh.get l j=some c)(lv:i.toNat≠j.toNat)(hy:enc c=y)(hc:y[q]?=some (.dv nv sz (ys.map encY)))
  (hm:st.length=m) (hy':y.set q (.own m 0 ys.length)=y') (lp:st.set id ⟨g,el,size,Jr l enc i x j y'⟩++[⟨0,nv,sz,ys.map encY⟩]=st'):Wk k ⟨nn,e,st⟩ ⟨nn,e,st'⟩:=by
 subst hy;have lW:(hole l enc i x)[j.toNat]?=some (enc c):=by
  unfold hole;rw[gJ lv];exact CS hj
 exact Nu lQ lW hc hm (n:=ys.length) (by simp) (by rw[hy'];exact lp)
end
section
variable {α : Type} {l : List α} {enc : α -> List AV} {P : Program} {s : St} {x y : Operand} {t el : TypeId} {size bytes id g m : Nat} {zz : List AV} {n i j : Int} {kk : IntKind} {u : α} {z z' : List AV}
theorem Mu (he:Dt P t=some ⟨el,size,bytes,zz⟩)(hx:s.ev x=.own id g m)(hy:s.ev y=.int kk n)(hr:s.st[id]?=some ⟨g,el,size,Jr l enc i z j z'⟩)(hm:m=l.length)(hg:Sh.get l n=some u):
  AQ P s (.indexAddr t x y) (.ptr id g n.toNat 0):=λK hk=>by
 show Hr P s.st t (s.ev x) (s.ev y) K;rw[hx,hy];subst hm;exact Am _ he ⟨(Sh.get_some hg).1,(Sh.get_some hg).2.2,Am _ hr ⟨rfl,rfl,by simpa [YT] using hk⟩⟩
end
section
variable {P : Program} {k : Nat} {ops : Array Oper} {Q : Exit -> St -> Prop} {ds : List (Option Tmp)} {r : List Oper} {n : Nat} {e : Nat -> AV} {st st' : List Row} {ty : TypeId} {ps : String} {ed : Array Edge} {gd : Option (Nat × Bool)} {T : TypeId} {x y : Operand} {size id g sz off : Nat} {el : TypeId} {α : Type} {l : List α} {enc : α -> List AV} {c : α} {i : Int} {v : AV} {cs x0 x' : List AV} {ag : Bool}
theorem ZM (hg:GO ds gd e)(ht:EN P T=some (ag,sz))(hx:St.ev ⟨n,e,st⟩ x=.ptr id g i.toNat off)(hr:st[id]?=some ⟨g,el,size,hole l enc i x0⟩)(hi:Sh.get l i=some c)(hv:St.ev ⟨n,e,st⟩ y=v)(hc:J6 v=some cs)(hn:cs.length=sz)(hle:off+cs.length<=size)
  (oO:Gw x0 off cs=x') (lp:st.set id ⟨g,el,size,hole l enc i x'⟩=st') (hk:AO P k ops Q (ds++[none]) r ⟨n,e,st'⟩):AO P k ops Q ds (⟨none,.store T x y,ty,ps,ed,gd⟩::r) ⟨n,e,st⟩:=by
 refine Ao hg ht hx hr (Ft hi) hv hc hn hle ?_ hk;rw[<- lp,oO,R8]
end
def SX (sel:List Nat)(l l':List Row):Prop:=∀st0:List Row,(∀row∈st0,∀x∈row.xs,∀c∈x,c.kept=true)->(∀row∈l,row∈st0)->l.map (Cc sel)=l'/\Ho l'
section
variable {sel : List Nat} {g size : Nat} {el : TypeId} {a b : Row} {r r' : List Row}
theorem SX.nil:SX sel [] []:=λ_ _ _=>⟨rfl,λ_ h=>by cases h⟩
theorem SX.cons (h:SR sel [a] [b])(hl:SX sel r r'):SX sel (a::r) (b::r'):=λst0 h0 hm=>by
 obtain⟨h1,h2⟩:=h.spec h0 (λrow hr=>hm row (by rw[gB]at hr;subst hr;exact iI ..));obtain⟨h3,h4⟩:=hl st0 h0 (λrow hr=>hm row (gw _ hr));simp only[gP,iQ,jD,and_true]at h1;refine⟨by rw[gP,h1,h3],λrow hr=>?_⟩;rcases fu.1 hr with rfl|hr
 ·exact h2 _ (iI ..)
 ·exact h4 row hr
theorem SX.deep {xs:List (List AV)}(hp:Cp xs)(hl:SX sel r r'):SX sel (⟨g,el,size,xs⟩::r) (⟨g,el,size,xs⟩::r'):=.cons (.deep hp .nil) hl
theorem SX.pure {xs:List (List AV)}(hp:Dz xs)(hl:SX sel r r'):SX sel (⟨g,el,size,xs⟩::r) (⟨g,el,size,xs⟩::r'):=.cons (.pure hp .nil) hl
theorem SX.raw {cs cs':List AV}(hc:cs.map (JE sel)=cs')(hp:cs'.all AV.leaf=true)(hl:SX sel r r'):SX sel (⟨g,el,size,[cs]⟩::r) (⟨g,el,size,[cs']⟩::r'):=.cons (.raw hc hp .nil) hl
theorem SX.hh {α:Type}{l:List α}{enc:α->List AV}{i j:Int}{x x' y y':List AV}(hp:Cp (l.map enc))(hk :∀z∈l.map enc,z.all AV.kept=true)(hx:x.map (JE sel)=x')(hy:y.map (JE sel)=y')(hxk:x'.all AV.kept=true)(hyk:y'.all AV.kept=true)(hl:SX sel r r'):
  SX sel (⟨g,el,size,Jr l enc i x j y⟩::r) (⟨g,el,size,Jr l enc i x' j y'⟩::r'):=λst0 h0 hm=>by
 obtain⟨h3,h4⟩:=hl st0 h0 (λrow hr=>hm row (gw _ hr));refine⟨?_,λrow hr=>?_⟩
 ·rw[gP,h3];congr 1;simp only[Cc,Jr,hole,iX,hx,hy];congr 3;refine (gO (g:=id) λz hz=>?_).trans (hZ _);refine (gO (g:=id) λc hc=>?_).trans (hZ _);exact KZ (hp z hz c hc)
 ·rcases fu.1 hr with rfl|hr
  ·intro z hz c hc;rcases gp hz with hz|rfl
   ·rcases gp hz with hz|rfl
    ·exact fk.1 (hk z hz) c hc
    ·exact fk.1 hxk c hc
   ·exact fk.1 hyk c hc
  ·exact h4 row hr
end
theorem Kk {k n:Nat}{e:Nat->AV}{st st1 st':List Row}{L:List (Nat×AV)}(sel:List Nat)(hk:sel.take k=List.range k)(mh:sel.Nodup)(lh:sel.all (·<st.length)=true)(hp:CT st sel=st1)(hs:SX sel st1 st')(h:ME (λt=>Je sel (e t)) L):
  Wk k ⟨n,e,st⟩ ⟨n,Aa L,st'⟩:=λF os a w hr=>by
 have hle:=LY hr;obtain⟨h1,h2⟩:=hs st hle (λrow lQ=>by
  rw[<- hp]at lQ;obtain⟨i,_,hi⟩:=hU.1 lQ;exact fc hi)
 exact QS sel hk mh lh (by rw[hp];exact h1) h2 h F os a w hr
end Go.Abs
