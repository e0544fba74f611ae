import Derived.Test.YtccficmcdkcpnaaGreatAbsP
set_option linter.all false
namespace Go.Abs
open Go
variable {P : Program} {F : Nat -> Prop} {os : List Own} {s : St} {a : Act} {w : World} {k : Nat}
section
variable {ops : Array Oper} {Q : Exit -> St -> Prop} {ds : List (Option Tmp)} {r : List Oper} {n : Nat} {e : Nat -> AV} {st st' : List Row} {ty : TypeId} {ps : String} {ed : Array Edge} {d : Option Tmp} {v v' : AV} {gd : Option (Nat × Bool)}
variable {f : FuncId} {sx : Array Operand} {ts : Array TypeId} {args : List AV} {rows0 rows1 rows2 rest : List Row}
end
def Bh (sel:List Nat)(row:Row):Row:={ row with xs:=row.xs.map (·.map (Ht sel)) }
theorem Wk.fN {n:Nat}{e:Nat->AV}{st:List Row}(sel:List Nat)(hk:sel.take k=List.range k)(tX:sel.Nodup)(rh :∀i∈sel,i<st.length)(hl:KO ((B9 st sel).map (Bh sel))):
  Wk k ⟨n,e,st⟩ ⟨n,λt=>Jg sel (e t),(B9 st sel).map (Bh sel)⟩:=λF os a w hr=>by
 have hlen:st.length=os.length:=hr.len;have hk' :∀i,i<k->sel[i]?=some i:=λi hi=>by
  have h1:(sel.take k)[i]?=some i:=by rw[hk];simp[hi]
  rw[nJ]at h1;simpa [hi] using h1
 have uV:∀(j id:Nat),sel[j]?=some id->(sel.filterMap (os[·]?))[j]?=os[id]?:=by
  have :∀(l:List Nat),(∀i∈l,i<os.length)->∀(j id:Nat),l[j]?=some id->(l.filterMap (os[·]?))[j]?=os[id]?:=λl=>by
   induction l with
   | nil=>intro _ j id h;simp at h
   | cons i l ih=>
    intro hl j id h;have hi:=hl i (by simp);rw[pA,mY hi];cases j with
    | zero=>simp only[mw,mU]at h;subst h;simp[mY hi]
    | succ j=>simp only[nV]at h⊢;exact ih (λx hx=>hl x (by simp[hx])) j id h
  exact this sel (λi hi=>by rw[<- hlen];exact rh i hi)
 let so:Own->Own:=λo=>{ o with row:=Bh sel o.row }
 let os2:=(sel.filterMap (os[·]?)).map so
 have uW:(sel.filterMap (os[·]?)).length=sel.length:=by
  have :∀(l:List Nat),(∀i∈l,i<os.length)->(l.filterMap (os[·]?)).length=l.length:=λl=>by
   induction l with
   | nil=>simp
   | cons i l ih=>intro hl;rw[pA,mY (hl i (by simp))];simp[ih (λx hx=>hl x (by simp[hx]))]
  exact this sel (λi hi=>by rw[<- hlen];exact rh i hi)
 have rb:∀(j:Nat) (o:Own),os2[j]?=some o->∃id o0,sel[j]?=some id/\os[id]?=some o0/\o=so o0:=λj o h=>by
  simp only[os2,mX,mZ]at h;obtain⟨o0,h0,rfl⟩:=h;have hj:j<sel.length:=by rw[<- uW];exact (mT.1 h0).1
  refine⟨sel[j],o0,mY hj,?_,rfl⟩;rw[<- uV j _ (mY hj)];exact h0
 have wu:∀x v,AU F w os x v->AU F w os2 (Ho sel x) v:=λx v h=>by
  have wJ:∀id j,idx sel id=some j->os2[j]?=(os[id]?).map so:=λid j hj=>by
   unfold idx at hj;rw[oZ]at hj;obtain⟨h1,h2,_⟩:=hj;simp only[os2,mX];rw[uV j id (by rw[mY h1];simpa using h2)]
  cases x with
  | own id g n=>
   simp only[Ho];split
   ·rename_i j hj;simp only[AU]at h⊢;obtain⟨o,h1,h2,h3,h4⟩:=h;exact⟨so o,by rw[wJ id j hj,h1];rfl,h2,h3,λhg=>by
     obtain⟨a1,a2⟩:=h4 hg;exact⟨by simpa [so,Bh] using a1,by simpa [so,Bh] using a2⟩⟩
   ·simp[AU]
  | ptr id g i off=>
   simp only[Ho];split
   ·rename_i j hj;simp only[AU]at h⊢;obtain⟨o,h1,h2,h3,h4⟩:=h;exact⟨so o,by rw[wJ id j hj,h1];rfl,h2,h3,λhg=>by
     obtain⟨a1,a2,a3⟩:=h4 hg;exact⟨by simpa [so,Bh] using a1,a2,a3⟩⟩
   ·simp[AU]
  | fn f cs=>simp[Ho,AU]
  | agg cs=>simp[Ho,AU]
  | C7 cs=>simp[Ho,AU]
  | _=>simp only[Ho,AU]at h⊢<;>exact h
 have uX:∀x v,AU F w os x v->AU F w os2 (Ht sel x) v:=Nt wu;have uY:∀cs us,A7 F w os cs us->A7 F w os2 (cs.map (Ht sel)) us:=λcs us h=>
  Cq (by simp[A3 h]) λi x u hx hu=>by
   simp only[mX,mZ]at hx;obtain⟨y,hy,rfl⟩:=hx;obtain⟨u',tZ,sw⟩:=BQ h i y hy;rw[tZ]at hu;cases hu;exact uX _ _ sw
 have zJ:∀x v,AU F w os x v->AU F w os2 (Jg sel x) v:=λx v h=>by
  cases x with
  | fn f cs=>simp only[Jg,AU]at h⊢;obtain⟨us,e,hl⟩:=h;exact⟨us,e,uY _ _ hl⟩
  | agg cs=>simp only[Jg,AU]at h⊢;obtain⟨us,e,hl⟩:=h;exact⟨us,e,uY _ _ hl⟩
  | C7 cs=>simp only[Jg,AU]at h⊢;obtain⟨us,e,hl⟩:=h;exact⟨us,e,uY _ _ hl⟩
  | _=>exact uX _ _ h
 have vp:os2.map Own.row=(B9 st sel).map (Bh sel):=by
  have h0:os.map Own.row=st:=hr.st;simp only[os2,B9,<- h0,oC,qM];congr 1;funext i;simp only[mX];cases os[i]?<;>rfl
 refine⟨F,os2,⟨vp,λt=>zJ _ _ (hr.env t),hr.size,λj o ho=>?_,λi j oi oj b hi hj uH uQ=>?_,hr.FU,hr.defers⟩,⟨rfl,rfl,rfl,ml _,λ_ h=>h,λ_ _=>rfl,λb _ h1 h2=>⟨rfl,h1,λo ho=>?_⟩,λi o hi ho=>⟨so o,?_,ml _,rfl,λ_=>⟨rfl,rfl,by simp[so,Bh]⟩⟩⟩⟩
 ·have rK:o.row∈(B9 st sel).map (Bh sel):=by rw[<- vp];exact mu.2 ⟨o,mS ho,rfl⟩
  obtain⟨id,o0,uj,ho0,rfl⟩:=rb j o ho;have rR:=hr.rows id o0 ho0;refine⟨rR.pos,λx hx=>⟨?_,hl _ rK x hx⟩,λhb=>?_,λb hb=>?_,rR.mo,rR.deep.mapped (Ht sel) (λ_ _ _ _ h=>Zf h) rfl rfl rfl rfl⟩
  ·simp only[so,Bh,mu]at hx;obtain⟨y,hy,rfl⟩:=hx;simpa [so,Bh] using (rR.lens y hy).1
  ·obtain⟨h1,h2⟩:=rR.none hb;exact⟨by simp[so,Bh,h1],h2⟩
  ·obtain⟨h1,cur,h2,h3,h4,h5,h6⟩:=rR.some b hb;refine⟨h1,cur,h2,h3,by simpa [so,Bh] using h4,h5,λi x hx j' c hc=>?_⟩;simp only[so,Bh,mX,mZ]at hx;obtain⟨y,hy,rfl⟩:=hx;simp only[mX,mZ]at hc;obtain⟨c0,uF,rfl⟩:=hc;obtain⟨u,e1,e2⟩:=h6 i y hy j' c0 uF;exact⟨u,e1,uX _ _ e2⟩
 ·obtain⟨id,o0,uj,ho0,rfl⟩:=rb i oi hi;obtain⟨sm,o0',hid',ho0',rfl⟩:=rb j oj hj;have he:=hr.inj id sm o0 o0' b ho0 ho0' uH uQ;subst he;obtain⟨xQ,wh⟩:=mT.1 uj;obtain⟨vm,vU⟩:=mT.1 hid';have hp:=pa.1 tX;rcases oI i j with h|h|h
  ·exact absurd (wh.trans vU.symm) (hp i j xQ vm h)
  ·exact h
  ·exact absurd (vU.trans wh.symm) (hp j i vm xQ h)
 ·simp only[os2,mu,oM]at ho;obtain⟨o0,⟨i,_,hi⟩,rfl⟩:=ho;exact h2 o0 (mS hi)
 ·simp only[os2,mX];rw[uV i i (hk' i hi),ho];rfl
theorem RH {n:Nat}{e:Nat->AV}{st st':List Row}{L:List (Nat×AV)}(sel:List Nat)(hk:sel.take k=List.range k)(tX:sel.Nodup)(rh:sel.all (·<st.length)=true)
  (ra:(B9 st sel).map (Bh sel)=st') (hl:KO st') (h:ME (λt=>Jg sel (e t)) L):Wk k ⟨n,e,st⟩ ⟨n,AM L,st'⟩:=by
 subst ra;exact (Wk.fN sel hk tX (λi hi=>by simpa using ma.1 rh i hi) hl).trans (As h)
inductive SR (sel:List Nat):List Row->List Row->Prop
 | nil:SR sel [] []
 | deep {g size:Nat} {el:TypeId} {xs:List (List AV)} {r r':List Row} (hp:B8 xs) (hl:SR sel r r'):SR sel (⟨g,el,size,xs⟩::r) (⟨g,el,size,xs⟩::r')
 | raw {g size:Nat} {el:TypeId} {cs cs':List AV} {r r':List Row} (hc:cs.map (Ht sel)=cs') (hp:cs'.all AV.leaf=true) (hl:SR sel r r'):SR sel (⟨g,el,size,[cs]⟩::r) (⟨g,el,size,[cs']⟩::r')
 | raws {g size:Nat} {el:TypeId} {cs cs':List (List AV)} {r r':List Row} (hc:cs.map (λx=>x.map (Ht sel))=cs') (hp:cs'.all (λx=>x.all AV.leaf)=true) (hl:SR sel r r'):SR sel (⟨g,el,size,cs⟩::r) (⟨g,el,size,cs'⟩::r')
 | hol {g size i:Nat} {el:TypeId} {zs:List (List AV)} {x x':List AV} {r r':List Row} (hp:B8 zs) (hz :∀z∈zs,z.all AV.kept=true) (hc:x.map (Ht sel)=x') (hk:x'.all AV.kept=true) (hl:SR sel r r'):SR sel (⟨g,el,size,zs.set i x⟩::r) (⟨g,el,size,zs.set i x'⟩::r')
theorem SR.pure {sel:List Nat}{g size:Nat}{el:TypeId}{xs:List (List AV)}{r r':List Row}(hp:F9 xs)(hl:SR sel r r'):SR sel (⟨g,el,size,xs⟩::r) (⟨g,el,size,xs⟩::r'):=.deep hp.any hl
theorem NC {sel:List Nat}{c:AV}(h:Dd c=true):Ht sel c=c:=by cases c<;>simp[Dd,simple,Ht,two,Ho]at h⊢
theorem SR.spec {sel:List Nat}{st0:List Row}(hle :∀row∈st0,∀x∈row.xs,∀c∈x,c.kept=true):∀{l l':List Row},SR sel l l'->(∀row∈l,row∈st0)->l.map (Bh sel)=l'/\KO l'
 | _,_,.nil,_=>⟨rfl,λ_ h=>by cases h⟩
 | _,_,.deep hp hl,hm=>by
  obtain⟨h1,h2⟩:=SR.spec hle hl (λrow h=>hm row (nv _ h));have uP:=hle _ (hm _ (oQ ..));refine⟨?_,?_⟩
  ·simp only[mz,h1];congr 1;simp only[Bh];congr 1;refine (nD (g:=id) λx hx=>?_).trans (nt _);refine (nD (g:=id) λc hc=>?_).trans (nt _);exact NC (hp x hx c hc)
  ·intro row rK;rcases mr.1 rK with rfl|h
   ·exact uP
   ·exact h2 row h
 | _,_,.raw hc hp hl,hm=>by
  obtain⟨h1,h2⟩:=SR.spec hle hl (λrow h=>hm row (nv _ h));refine⟨?_,?_⟩
  ·simp only[mz,h1,Bh,od,hc]
  ·intro row rK;rcases mr.1 rK with rfl|h
   ·intro x hx c xS;simp only[nQ]at hx;subst hx;exact Ci (ma.1 hp c xS)
   ·exact h2 row h
 | _,_,.raws hc hp hl,hm=>by
  obtain⟨h1,h2⟩:=SR.spec hle hl (λrow h=>hm row (nv _ h));refine⟨?_,?_⟩
  ·simp only[mz,h1,Bh,hc]
  ·intro row rK;rcases mr.1 rK with rfl|h
   ·intro x hx c xS;exact Ci (ma.1 (ma.1 hp x hx) c xS)
   ·exact h2 row h
 | _,_,.hol (zs:=zs) (i:=i) hp hz hc hk hl,hm=>by
  obtain⟨h1,h2⟩:=SR.spec hle hl (λrow h=>hm row (nv _ h));refine⟨?_,?_⟩
  ·simp only[mz,h1,Bh,oR,hc];congr 3;refine (nD (g:=id) λx hx=>?_).trans (nt _);refine (nD (g:=id) λc hc=>?_).trans (nt _);exact NC (hp x hx c hc)
  ·intro row rK;rcases mr.1 rK with rfl|h
   ·intro x hx c xS;rcases nd hx with hx|rfl
    ·exact ma.1 (hz x hx) c xS
    ·exact ma.1 hk c xS
   ·exact h2 row h
theorem P2 {n:Nat}{e:Nat->AV}{st:List Row}(hr:Rel F os ⟨n,e,st⟩ a w):∀row∈st,∀x∈row.xs,∀c∈x,c.kept=true:=λrow rK x hx c hc=>by
 have ra:=hr.st;simp only at ra;rw[<- ra]at rK;obtain⟨o,ho,rfl⟩:=mu.1 rK;obtain⟨i,hi⟩:=nC.1 ho;exact ((hr.rows i o hi).lens x hx).2 c hc
end Go.Abs
