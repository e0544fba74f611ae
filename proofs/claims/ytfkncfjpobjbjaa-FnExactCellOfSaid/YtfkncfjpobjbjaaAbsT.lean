import Derived.Test.YtfkncfjpobjbjaaAbsP
set_option linter.all false
namespace Go.Abs
open Go
variable {P : Program} {F : Nat -> Prop} {os : List Own} {s : St} {a : Act} {w : World} {k : Nat}
section
variable {ops : Array Oper} {Q : Exit -> St -> Prop} {ds : List (Option Tmp)} {r : List Oper} {n : Nat} {e : Nat -> AV} {st st' : List Row} {ty : TypeId} {ps : String} {ed : Array Edge} {d : Option Tmp} {v v' : AV} {gd : Option (Nat × Bool)}
variable {f : FuncId} {VG : Array Operand} {ts : Array TypeId} {args : List AV} {rows0 rows1 rows2 rest : List Row}
end
def At (AP:List Nat)(row:Row):Row:={ row with xs:=row.xs.map (·.map (Dm AP)) }
theorem Wk.Ou {n:Nat}{e:Nat->AV}{st:List Row}(AP:List Nat)(hk:AP.take k=List.range k)(VM:AP.Nodup)(UM :∀i∈AP,i<st.length)(hl:Ee ((BM st AP).map (At AP))):
  Wk k ⟨n,e,st⟩ ⟨n,λt=>E0 AP (e t),(BM st AP).map (At AP)⟩:=λF os a w hr=>by
 have hlen:st.length=os.length:=hr.len;have YF :∀i,i<k->AP[i]?=some i:=λi hi=>by
  have h1:(AP.take k)[i]?=some i:=by rw[hk];simp[hi]
  rw[SB]at h1;simpa [hi] using h1
 have Vt:∀(j id:Nat),AP[j]?=some id->(AP.filterMap (os[·]?))[j]?=os[id]?:=by
  have :∀(l:List Nat),(∀i∈l,i<os.length)->∀(j id:Nat),l[j]?=some id->(l.filterMap (os[·]?))[j]?=os[id]?:=λl=>by
   induction l with
   | nil=>intro _ j id h;simp at h
   | cons i l ih=>
    intro hl j id h;have hi:=hl i (by simp);rw[S6,Rt hi];cases j with
    | zero=>simp only[R6,Rr]at h;subst h;simp[Rt hi]
    | succ j=>simp only[SK]at h⊢;exact ih (λx hx=>hl x (by simp[hx])) j id h
  exact this AP (λi hi=>by rw[<- hlen];exact UM i hi)
 let so:Own->Own:=λo=>{ o with row:=At AP o.row }
 let os2:=(AP.filterMap (os[·]?)).map so
 have ZI:(AP.filterMap (os[·]?)).length=AP.length:=by
  have :∀(l:List Nat),(∀i∈l,i<os.length)->(l.filterMap (os[·]?)).length=l.length:=λl=>by
   induction l with
   | nil=>simp
   | cons i l ih=>intro hl;rw[S6,Rt (hl i (by simp))];simp[ih (λx hx=>hl x (by simp[hx]))]
  exact this AP (λi hi=>by rw[<- hlen];exact UM i hi)
 have T9:∀(j:Nat) (o:Own),os2[j]?=some o->∃id o0,AP[j]?=some id/\os[id]?=some o0/\o=so o0:=λj o h=>by
  simp only[os2,Rs,Rv]at h;obtain⟨o0,h0,rfl⟩:=h;have hj:j<AP.length:=by rw[<- ZI];exact (Rq.1 h0).1
  refine⟨AP[j],o0,Rt hj,?_,rfl⟩;rw[<- Vt j _ (Rt hj)];exact h0
 have YG:∀x v,AF F w os x v->AF F w os2 (C2 AP x) v:=λx v h=>by
  have Xf:∀id j,idx AP id=some j->os2[j]?=(os[id]?).map so:=λid j hj=>by
   unfold idx at hj;rw[Sp]at hj;obtain⟨h1,h2,_⟩:=hj;simp only[os2,Rs];rw[Vt j id (by rw[Rt h1];simpa using h2)]
  cases x with
  | own id g n=>
   simp only[C2];split
   ·rename_i j hj;simp only[AF]at h⊢;obtain⟨o,h1,h2,h3,h4⟩:=h;exact⟨so o,by rw[Xf id j hj,h1];rfl,h2,h3,λhg=>by
     obtain⟨a1,a2⟩:=h4 hg;exact⟨by simpa [so,At] using a1,by simpa [so,At] using a2⟩⟩
   ·simp[AF]
  | ptr id g i off=>
   simp only[C2];split
   ·rename_i j hj;simp only[AF]at h⊢;obtain⟨o,h1,h2,h3,h4⟩:=h;exact⟨so o,by rw[Xf id j hj,h1];rfl,h2,h3,λhg=>by
     obtain⟨a1,a2,a3⟩:=h4 hg;exact⟨by simpa [so,At] using a1,a2,a3⟩⟩
   ·simp[AF]
  | fn f cs=>simp[C2,AF]
  | agg cs=>simp[C2,AF]
  | BB cs=>simp[C2,AF]
  | _=>simp only[C2,AF]at h⊢<;>exact h
 have Vu:∀x v,AF F w os x v->AF F w os2 (Dm AP x) v:=FL YG;have Vv:∀cs us,Ad F w os cs us->Ad F w os2 (cs.map (Dm AP)) us:=λcs us h=>
  BP (by simp[Ab h]) λi x u hx hu=>by
   simp only[Rs,Rv]at hx;obtain⟨y,hy,rfl⟩:=hx;obtain⟨u',VJ,VS⟩:=Al h i y hy;rw[VJ]at hu;cases hu;exact Vu _ _ VS
 have Zj:∀x v,AF F w os x v->AF F w os2 (E0 AP x) v:=λx v h=>by
  cases x with
  | fn f cs=>simp only[E0,AF]at h⊢;obtain⟨us,e,hl⟩:=h;exact⟨us,e,Vv _ _ hl⟩
  | agg cs=>simp only[E0,AF]at h⊢;obtain⟨us,e,hl⟩:=h;exact⟨us,e,Vv _ _ hl⟩
  | BB cs=>simp only[E0,AF]at h⊢;obtain⟨us,e,hl⟩:=h;exact⟨us,e,Vv _ _ hl⟩
  | _=>exact Vu _ _ h
 have W9:os2.map Own.row=(BM st AP).map (At AP):=by
  have h0:os.map Own.row=st:=hr.st;simp only[os2,BM,<- h0,Sx,Tl];congr 1;funext i;simp only[Rs];cases os[i]?<;>rfl
 refine⟨F,os2,⟨W9,λt=>Zj _ _ (hr.env t),hr.size,λj o ho=>?_,λi j oi oj b hi hj V6 V7=>?_,hr.CL,hr.defers⟩,⟨rfl,rfl,rfl,R3 _,λ_ h=>h,λ_ _=>rfl,λb _ h1 h2=>⟨rfl,h1,λo ho=>?_⟩,λi o hi ho=>⟨so o,?_,R3 _,rfl,λ_=>⟨rfl,rfl,by simp[so,At]⟩⟩⟩⟩
 ·have T4:o.row∈(BM st AP).map (At AP):=by rw[<- W9];exact R9.2 ⟨o,Ro ho,rfl⟩
  obtain⟨id,o0,WJ,ho0,rfl⟩:=T9 j o ho;have T6:=hr.rows id o0 ho0;refine⟨T6.pos,λx hx=>⟨?_,hl _ T4 x hx⟩,λhb=>?_,λb hb=>?_,T6.mo,T6.deep.mapped (Dm AP) (λ_ _ _ _ h=>L1 h) rfl rfl rfl rfl⟩
  ·simp only[so,At,R9]at hx;obtain⟨y,hy,rfl⟩:=hx;simpa [so,At] using (T6.lens y hy).1
  ·obtain⟨h1,h2⟩:=T6.none hb;exact⟨by simpa [so,At] using FV (Dm AP) (λ_ _=>rfl) h1,h2⟩
  ·obtain⟨h1,cur,h2,h3,h4,h5,h6⟩:=T6.some b hb;refine⟨h1,cur,h2,h3,by simpa [so,At] using h4,h5,λi x hx j' c hc=>?_⟩;simp only[so,At,Rs,Rv]at hx;obtain⟨y,hy,rfl⟩:=hx;simp only[Rs,Rv]at hc;obtain⟨c0,VA,rfl⟩:=hc;obtain⟨u,e1,e2⟩:=h6 i y hy j' c0 VA;exact⟨u,e1,Vu _ _ e2⟩
 ·obtain⟨id,o0,WJ,ho0,rfl⟩:=T9 i oi hi;obtain⟨Uz,o0',hid',ho0',rfl⟩:=T9 j oj hj;have he:=hr.inj id Uz o0 o0' b ho0 ho0' V6 V7;subst he;obtain⟨Yh,Xw⟩:=Rq.1 WJ;obtain⟨W7,XM⟩:=Rq.1 hid';have hp:=TQ.1 VM;rcases Sb i j with h|h|h
  ·exact absurd (Xw.trans XM.symm) (hp i j Yh W7 h)
  ·exact h
  ·exact absurd (XM.trans Xw.symm) (hp j i W7 Yh h)
 ·simp only[os2,R9,Su]at ho;obtain⟨o0,⟨i,_,hi⟩,rfl⟩:=ho;exact h2 o0 (Ro hi)
 ·simp only[os2,Rs];rw[Vt i i (YF i hi),ho];rfl
theorem Wk.RO {n:Nat}{e:Nat->AV}{st st':List Row}{L:List (Nat×AV)}(AP:List Nat)(hk:AP.take k=List.range k)(VM:AP.Nodup)(UM:AP.all (·<st.length)=true)
  (UL:(BM st AP).map (At AP)=st') (hl:Ee st') (h:ME (λt=>E0 AP (e t)) L):Wk k ⟨n,e,st⟩ ⟨n,AX L,st'⟩:=by
 subst UL;exact (Wk.Ou AP hk VM (λi hi=>by simpa using Ry.1 UM i hi) hl).trans (AR h)
inductive SR (AP:List Nat):List Row->List Row->Prop
 | nil:SR AP [] []
 | deep {g size:Nat} {el:TypeId} {xs:List (List AV)} {r r':List Row} (hp:Au xs) (hl:SR AP r r'):SR AP (⟨g,el,size,xs⟩::r) (⟨g,el,size,xs⟩::r')
 | raw {g size:Nat} {el:TypeId} {cs cs':List AV} {r r':List Row} (hc:cs.map (Dm AP)=cs') (hp:cs'.all AV.leaf=true) (hl:SR AP r r'):SR AP (⟨g,el,size,[cs]⟩::r) (⟨g,el,size,[cs']⟩::r')
 | hol {g size i:Nat} {el:TypeId} {zs:List (List AV)} {x x':List AV} {r r':List Row} (hp:Au zs) (hz :∀z∈zs,z.all AV.kept=true) (hc:x.map (Dm AP)=x') (hk:x'.all AV.kept=true) (hl:SR AP r r'):SR AP (⟨g,el,size,zs.set i x⟩::r) (⟨g,el,size,zs.set i x'⟩::r')
theorem SR.pure {AP:List Nat}{g size:Nat}{el:TypeId}{xs:List (List AV)}{r r':List Row}(hp:C1 xs)(hl:SR AP r r'):SR AP (⟨g,el,size,xs⟩::r) (⟨g,el,size,xs⟩::r'):=.deep hp.any hl
theorem G5 {AP:List Nat}{c:AV}(h:BQ c=true):Dm AP c=c:=by cases c<;>simp[BQ,simple,Dm,two,C2]at h⊢
theorem SR.spec {AP:List Nat}{st0:List Row}(hle :∀row∈st0,∀x∈row.xs,∀c∈x,c.kept=true):∀{l l':List Row},SR AP l l'->(∀row∈l,row∈st0)->l.map (At AP)=l'/\Ee l'
 | _,_,.nil,_=>⟨rfl,λ_ h=>by cases h⟩
 | _,_,.deep hp hl,hm=>by
  obtain⟨h1,h2⟩:=SR.spec hle hl (λrow h=>hm row (Sg _ h));have Xv:=hle _ (hm _ (Ss ..));refine⟨?_,?_⟩
  ·simp only[SD,h1];congr 1;simp only[At];congr 1;refine (R8 (g:=id) λx hx=>?_).trans (Sn _);refine (R8 (g:=id) λc hc=>?_).trans (Sn _);exact G5 (hp x hx c hc)
  ·intro row T4;rcases SE.1 T4 with rfl|h
   ·exact Xv
   ·exact h2 row h
 | _,_,.raw hc hp hl,hm=>by
  obtain⟨h1,h2⟩:=SR.spec hle hl (λrow h=>hm row (Sg _ h));refine⟨?_,?_⟩
  ·simp only[SD,h1,At,TB,hc]
  ·intro row T4;rcases SE.1 T4 with rfl|h
   ·intro x hx c ZJ;simp only[SC]at hx;subst hx;exact Bd (Ry.1 hp c ZJ)
   ·exact h2 row h
 | _,_,.hol (zs:=zs) (i:=i) hp hz hc hk hl,hm=>by
  obtain⟨h1,h2⟩:=SR.spec hle hl (λrow h=>hm row (Sg _ h));refine⟨?_,?_⟩
  ·simp only[SD,h1,At,Sf,hc];congr 3;refine (R8 (g:=id) λx hx=>?_).trans (Sn _);refine (R8 (g:=id) λc hc=>?_).trans (Sn _);exact G5 (hp x hx c hc)
  ·intro row T4;rcases SE.1 T4 with rfl|h
   ·intro x hx c ZJ;rcases SU hx with hx|rfl
    ·exact Ry.1 (hz x hx) c ZJ
    ·exact Ry.1 hk c ZJ
   ·exact h2 row h
theorem Ka {n:Nat}{e:Nat->AV}{st:List Row}(hr:Rel F os ⟨n,e,st⟩ a w):∀row∈st,∀x∈row.xs,∀c∈x,c.kept=true:=λrow T4 x hx c hc=>by
 have UL:=hr.st;simp only at UL;rw[<- UL]at T4;obtain⟨o,ho,rfl⟩:=R9.1 T4;obtain⟨i,hi⟩:=R5.1 ho;exact ((hr.rows i o hi).lens x hx).2 c hc
def Pg (m:Nat)(st:List Row):AV->AV
 | .own id g n=>if id<m then .own id g n else match st[id]? with
  | some row=>if row.gen=g then .own id 0 n else .Bl
  | none=>.Bl
 | .ptr id g i off=>if id<m then .ptr id g i off else match st[id]? with
  | some row=>if row.gen=g then .ptr id 0 i off else .Bl
  | none=>.Bl
 | .fn ..|.agg _|.BB _=>.Bl
 | v=>v
def Px (m:Nat)(st:List Row)(x:AV):AV:=two (Pg m st) x
def rk (m:Nat)(st:List Row):AV->AV
 | .fn f cs=>.fn f (cs.map (Px m st))
 | .agg cs=>.agg (cs.map (Px m st))
 | .BB cs=>.BB (cs.map (Px m st))
 | v=>Px m st v
end Go.Abs
