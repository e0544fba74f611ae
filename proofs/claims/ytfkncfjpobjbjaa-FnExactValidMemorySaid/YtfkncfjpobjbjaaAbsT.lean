import Derived.Test.YtfkncfjpobjbjaaAbsP
set_option linter.all false
namespace Go.Abs
open Go
variable {P : Program} {F : Nat -> Prop} {os : List Own} {s : St} {a : Act} {w : World} {k : Nat}
section
variable {ops : Array Oper} {Q : Exit -> St -> Prop} {ds : List (Option Tmp)} {r : List Oper} {n : Nat} {e : Nat -> AV} {st st' : List Row} {ty : TypeId} {ps : String} {ed : Array Edge} {d : Option Tmp} {v v' : AV} {gd : Option (Nat × Bool)}
variable {f : FuncId} {VA : Array Operand} {ts : Array TypeId} {args : List AV} {rows0 rows1 rows2 rest : List Row}
end
def At (AP:List Nat)(row:Row):Row:={ row with xs:=row.xs.map (·.map (Dl AP)) }
theorem Wk.Oh {n:Nat}{e:Nat->AV}{st:List Row}(AP:List Nat)(hk:AP.take k=List.range k)(VF:AP.Nodup)(T9 :∀i∈AP,i<st.length)(hl:Ed ((BL st AP).map (At AP))):
  Wk k ⟨n,e,st⟩ ⟨n,λt=>Ez AP (e t),(BL st AP).map (At AP)⟩:=λF os a w hr=>by
 have hlen:st.length=os.length:=hr.len;have X8 :∀i,i<k->AP[i]?=some i:=λi hi=>by
  have h1:(AP.take k)[i]?=some i:=by rw[hk];simp[hi]
  rw[R6]at h1;simpa [hi] using h1
 have Vn:∀(j id:Nat),AP[j]?=some id->(AP.filterMap (os[·]?))[j]?=os[id]?:=by
  have :∀(l:List Nat),(∀i∈l,i<os.length)->∀(j id:Nat),l[j]?=some id->(l.filterMap (os[·]?))[j]?=os[id]?:=λl=>by
   induction l with
   | nil=>intro _ j id h;simp at h
   | cons i l ih=>
    intro hl j id h;have hi:=hl i (by simp);rw[Sz,Rp hi];cases j with
    | zero=>simp only[R2,Rn]at h;subst h;simp[Rp hi]
    | succ j=>simp only[SG]at h⊢;exact ih (λx hx=>hl x (by simp[hx])) j id h
  exact this AP (λi hi=>by rw[<- hlen];exact T9 i hi)
 let so:Own->Own:=λo=>{ o with row:=At AP o.row }
 let os2:=(AP.filterMap (os[·]?)).map so
 have ZF:(AP.filterMap (os[·]?)).length=AP.length:=by
  have :∀(l:List Nat),(∀i∈l,i<os.length)->(l.filterMap (os[·]?)).length=l.length:=λl=>by
   induction l with
   | nil=>simp
   | cons i l ih=>intro hl;rw[Sz,Rp (hl i (by simp))];simp[ih (λx hx=>hl x (by simp[hx]))]
  exact this AP (λi hi=>by rw[<- hlen];exact T9 i hi)
 have T5:∀(j:Nat) (o:Own),os2[j]?=some o->∃id o0,AP[j]?=some id/\os[id]?=some o0/\o=so o0:=λj o h=>by
  simp only[os2,Ro,Rr]at h;obtain⟨o0,h0,rfl⟩:=h;have hj:j<AP.length:=by rw[<- ZF];exact (Rm.1 h0).1
  refine⟨AP[j],o0,Rp hj,?_,rfl⟩;rw[<- Vn j _ (Rp hj)];exact h0
 have X9:∀x v,AF F w os x v->AF F w os2 (Cs AP x) v:=λx v h=>by
  have XY:∀id j,idx AP id=some j->os2[j]?=(os[id]?).map so:=λid j hj=>by
   unfold idx at hj;rw[Sl]at hj;obtain⟨h1,h2,_⟩:=hj;simp only[os2,Ro];rw[Vn j id (by rw[Rp h1];simpa using h2)]
  cases x with
  | own id g n=>
   simp only[Cs];split
   ·rename_i j hj;simp only[AF]at h⊢;obtain⟨o,h1,h2,h3,h4⟩:=h;exact⟨so o,by rw[XY id j hj,h1];rfl,h2,h3,λhg=>by
     obtain⟨a1,a2⟩:=h4 hg;exact⟨by simpa [so,At] using a1,by simpa [so,At] using a2⟩⟩
   ·simp[AF]
  | ptr id g i off=>
   simp only[Cs];split
   ·rename_i j hj;simp only[AF]at h⊢;obtain⟨o,h1,h2,h3,h4⟩:=h;exact⟨so o,by rw[XY id j hj,h1];rfl,h2,h3,λhg=>by
     obtain⟨a1,a2,a3⟩:=h4 hg;exact⟨by simpa [so,At] using a1,a2,a3⟩⟩
   ·simp[AF]
  | fn f cs=>simp[Cs,AF]
  | agg cs=>simp[Cs,AF]
  | BK cs=>simp[Cs,AF]
  | _=>simp only[Cs,AF]at h⊢<;>exact h
 have Vo:∀x v,AF F w os x v->AF F w os2 (Dl AP x) v:=FI X9;have Vp:∀cs us,Ad F w os cs us->Ad F w os2 (cs.map (Dl AP)) us:=λcs us h=>
  BQ (by simp[Aa h]) λi x u hx hu=>by
   simp only[Ro,Rr]at hx;obtain⟨y,hy,rfl⟩:=hx;obtain⟨u',VC,VL⟩:=Aj h i y hy;rw[VC]at hu;cases hu;exact Vo _ _ VL
 have Zg:∀x v,AF F w os x v->AF F w os2 (Ez AP x) v:=λx v h=>by
  cases x with
  | fn f cs=>simp only[Ez,AF]at h⊢;obtain⟨us,e,hl⟩:=h;exact⟨us,e,Vp _ _ hl⟩
  | agg cs=>simp only[Ez,AF]at h⊢;obtain⟨us,e,hl⟩:=h;exact⟨us,e,Vp _ _ hl⟩
  | BK cs=>simp only[Ez,AF]at h⊢;obtain⟨us,e,hl⟩:=h;exact⟨us,e,Vp _ _ hl⟩
  | _=>exact Vo _ _ h
 have Wz:os2.map Own.row=(BL st AP).map (At AP):=by
  have h0:os.map Own.row=st:=hr.st;simp only[os2,BL,<- h0,Sq,Th];congr 1;funext i;simp only[Ro];cases os[i]?<;>rfl
 refine⟨F,os2,⟨Wz,λt=>Zg _ _ (hr.env t),hr.size,λj o ho=>?_,λi j oi oj b hi hj V2 V3=>?_,hr.CL,hr.defers⟩,⟨rfl,rfl,rfl,Rz _,λ_ h=>h,λ_ _=>rfl,λb _ h1 h2=>⟨rfl,h1,λo ho=>?_⟩,λi o hi ho=>⟨so o,?_,Rz _,rfl,λ_=>⟨rfl,rfl,by simp[so,At]⟩⟩⟩⟩
 ·have T0:o.row∈(BL st AP).map (At AP):=by rw[<- Wz];exact R7.2 ⟨o,Rk ho,rfl⟩
  obtain⟨id,o0,WE,ho0,rfl⟩:=T5 j o ho;have T2:=hr.rows id o0 ho0;refine⟨T2.pos,λx hx=>⟨?_,hl _ T0 x hx⟩,λhb=>?_,λb hb=>?_,T2.mo,T2.deep.mapped (Dl AP) (λ_ _ _ _ h=>L5 h) rfl rfl rfl rfl⟩
  ·simp only[so,At,R7]at hx;obtain⟨y,hy,rfl⟩:=hx;simpa [so,At] using (T2.lens y hy).1
  ·obtain⟨h1,h2⟩:=T2.none hb;exact⟨by simpa [so,At] using FG (Dl AP) (λ_ _=>rfl) h1,h2⟩
  ·obtain⟨h1,cur,h2,h3,h4,h5,h6⟩:=T2.some b hb;refine⟨h1,cur,h2,h3,by simpa [so,At] using h4,h5,λi x hx j' c hc=>?_⟩;simp only[so,At,Ro,Rr]at hx;obtain⟨y,hy,rfl⟩:=hx;simp only[Ro,Rr]at hc;obtain⟨c0,U3,rfl⟩:=hc;obtain⟨u,e1,e2⟩:=h6 i y hy j' c0 U3;exact⟨u,e1,Vo _ _ e2⟩
 ·obtain⟨id,o0,WE,ho0,rfl⟩:=T5 i oi hi;obtain⟨Uv,o0',hid',ho0',rfl⟩:=T5 j oj hj;have he:=hr.inj id Uv o0 o0' b ho0 ho0' V2 V3;subst he;obtain⟨Yb,Xr⟩:=Rm.1 WE;obtain⟨Wx,XH⟩:=Rm.1 hid';have hp:=TM.1 VF;rcases SW i j with h|h|h
  ·exact absurd (Xr.trans XH.symm) (hp i j Yb Wx h)
  ·exact h
  ·exact absurd (XH.trans Xr.symm) (hp j i Wx Yb h)
 ·simp only[os2,R7,So]at ho;obtain⟨o0,⟨i,_,hi⟩,rfl⟩:=ho;exact h2 o0 (Rk hi)
 ·simp only[os2,Ro];rw[Vn i i (X8 i hi),ho];rfl
theorem Wk.Q5 {n:Nat}{e:Nat->AV}{st st':List Row}{L:List (Nat×AV)}(AP:List Nat)(hk:AP.take k=List.range k)(VF:AP.Nodup)(T9:AP.all (·<st.length)=true)
  (T8:(BL st AP).map (At AP)=st') (hl:Ed st') (h:ME (λt=>Ez AP (e t)) L):Wk k ⟨n,e,st⟩ ⟨n,AX L,st'⟩:=by
 subst T8;exact (Wk.Oh AP hk VF (λi hi=>by simpa using Ru.1 T9 i hi) hl).trans (AR h)
inductive SR (AP:List Nat):List Row->List Row->Prop
 | nil:SR AP [] []
 | deep {g size:Nat} {el:TypeId} {xs:List (List AV)} {r r':List Row} (hp:Au xs) (hl:SR AP r r'):SR AP (⟨g,el,size,xs⟩::r) (⟨g,el,size,xs⟩::r')
 | raw {g size:Nat} {el:TypeId} {cs cs':List AV} {r r':List Row} (hc:cs.map (Dl AP)=cs') (hp:cs'.all AV.leaf=true) (hl:SR AP r r'):SR AP (⟨g,el,size,[cs]⟩::r) (⟨g,el,size,[cs']⟩::r')
 | hol {g size i:Nat} {el:TypeId} {zs:List (List AV)} {x x':List AV} {r r':List Row} (hp:Au zs) (hz :∀z∈zs,z.all AV.kept=true) (hc:x.map (Dl AP)=x') (hk:x'.all AV.kept=true) (hl:SR AP r r'):SR AP (⟨g,el,size,zs.set i x⟩::r) (⟨g,el,size,zs.set i x'⟩::r')
theorem SR.pure {AP:List Nat}{g size:Nat}{el:TypeId}{xs:List (List AV)}{r r':List Row}(hp:Cu xs)(hl:SR AP r r'):SR AP (⟨g,el,size,xs⟩::r) (⟨g,el,size,xs⟩::r'):=.deep hp.any hl
theorem G4 {AP:List Nat}{c:AV}(h:BP c=true):Dl AP c=c:=by cases c<;>simp[BP,simple,Dl,two,Cs]at h⊢
theorem SR.spec {AP:List Nat}{st0:List Row}(hle :∀row∈st0,∀x∈row.xs,∀c∈x,c.kept=true):∀{l l':List Row},SR AP l l'->(∀row∈l,row∈st0)->l.map (At AP)=l'/\Ed l'
 | _,_,.nil,_=>⟨rfl,λ_ h=>by cases h⟩
 | _,_,.deep hp hl,hm=>by
  obtain⟨h1,h2⟩:=SR.spec hle hl (λrow h=>hm row (Sc _ h));have Xq:=hle _ (hm _ (Sn ..));refine⟨?_,?_⟩
  ·simp only[R9,h1];congr 1;simp only[At];congr 1;refine (R4 (g:=id) λx hx=>?_).trans (Sj _);refine (R4 (g:=id) λc hc=>?_).trans (Sj _);exact G4 (hp x hx c hc)
  ·intro row T0;rcases SA.1 T0 with rfl|h
   ·exact Xq
   ·exact h2 row h
 | _,_,.raw hc hp hl,hm=>by
  obtain⟨h1,h2⟩:=SR.spec hle hl (λrow h=>hm row (Sc _ h));refine⟨?_,?_⟩
  ·simp only[R9,h1,At,S7,hc]
  ·intro row T0;rcases SA.1 T0 with rfl|h
   ·intro x hx c ZG;simp only[R8]at hx;subst hx;exact Bd (Ru.1 hp c ZG)
   ·exact h2 row h
 | _,_,.hol (zs:=zs) (i:=i) hp hz hc hk hl,hm=>by
  obtain⟨h1,h2⟩:=SR.spec hle hl (λrow h=>hm row (Sc _ h));refine⟨?_,?_⟩
  ·simp only[R9,h1,At,Sb,hc];congr 3;refine (R4 (g:=id) λx hx=>?_).trans (Sj _);refine (R4 (g:=id) λc hc=>?_).trans (Sj _);exact G4 (hp x hx c hc)
  ·intro row T0;rcases SA.1 T0 with rfl|h
   ·intro x hx c ZG;rcases SO hx with hx|rfl
    ·exact Ru.1 (hz x hx) c ZG
    ·exact Ru.1 hk c ZG
   ·exact h2 row h
theorem Kb {n:Nat}{e:Nat->AV}{st:List Row}(hr:Rel F os ⟨n,e,st⟩ a w):∀row∈st,∀x∈row.xs,∀c∈x,c.kept=true:=λrow T0 x hx c hc=>by
 have T8:=hr.st;simp only at T8;rw[<- T8]at T0;obtain⟨o,ho,rfl⟩:=R7.1 T0;obtain⟨i,hi⟩:=R0.1 ho;exact ((hr.rows i o hi).lens x hx).2 c hc
def Pr (m:Nat)(st:List Row):AV->AV
 | .own id g n=>if id<m then .own id g n else match st[id]? with
  | some row=>if row.gen=g then .own id 0 n else .Bk
  | none=>.Bk
 | .ptr id g i off=>if id<m then .ptr id g i off else match st[id]? with
  | some row=>if row.gen=g then .ptr id 0 i off else .Bk
  | none=>.Bk
 | .fn ..|.agg _|.BK _=>.Bk
 | v=>v
def Pm (m:Nat)(st:List Row)(x:AV):AV:=two (Pr m st) x
def rk (m:Nat)(st:List Row):AV->AV
 | .fn f cs=>.fn f (cs.map (Pm m st))
 | .agg cs=>.agg (cs.map (Pm m st))
 | .BK cs=>.BK (cs.map (Pm m st))
 | v=>Pm m st v
end Go.Abs
