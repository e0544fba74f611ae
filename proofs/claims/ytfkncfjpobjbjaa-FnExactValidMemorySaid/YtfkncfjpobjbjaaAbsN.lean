import Derived.Test.YtfkncfjpobjbjaaAbsM
set_option linter.all false
namespace Sh
open Go
def w (n:Int):Int:=IntKind.i64.wrap n
def wk (k:IntKind)(n:Int):Int:=k.wrap n
def get {α:Type}(l:List α)(j:Int):Option α:=if 0<=j then l[j.toNat]? else none
def put {α:Type}(l:List α)(j:Int)(x:α):List α:=l.set j.toNat x
def len {α:Type}(l:List α):Int:=l.length
def mk {α:Type}(x:α)(j:Int)(bytes:Nat):Option (List α):=if 0<=j/\j*bytes<=281474976710656/\j<=9223372036854775807 then some (List.replicate j.toNat x) else none
def app {α:Type}(l m:List α)(bytes:Nat):Option (List α):=if (l.length+m.length)*bytes<=140737488355328/\l.length+m.length<=9223372036854775807 then some (l++m) else none
def hi {α:Type}(l:List α)(j:Int):Option (List α):=if 0<=j/\j<=l.length then some (l.take j.toNat) else none
def lo {α:Type}(l:List α)(j:Int):Option (List α):=if 0<=j/\j<=l.length then some (l.drop j.toNat) else none
def sl {α:Type}(l:List α)(i j:Int):Option (List α):=if 0<=i/\i<=j/\j<=l.length then some ((l.take j.toNat).drop i.toNat) else none
def quo (a b:Int):Option Int:=if b=0 then none else some (w (a.tdiv b))
def rem (a b:Int):Option Int:=if b=0 then none else some (a.tmod b)
def xor (a b:Int):Int:=IntKind.i64.wrap (BitVec.ofInt 64 a ^^^ BitVec.ofInt 64 b).toNat
theorem get_some {α:Type}{l:List α}{j:Int}{c:α}(h:get l j=some c):0<=j/\l[j.toNat]?=some c/\j<l.length:=by
 unfold get at h;split at h
 ·rename_i h0;have:=(Rm.1 h).1;exact⟨h0,h,by omega⟩
 ·cases h
theorem bind_some {α β:Type}{x:Option α}{f:α->Option β}{r:β}(h:x.bind f=some r):∃v,x=some v/\f v=some r:=by
 cases x with
 | none=>cases h
 | some v=>exact⟨v,rfl,h⟩
theorem DC {α:Type}{l:List α}{j:Int}{x:α}:(put l j x).length=l.length:=by simp[put]
theorem AA {α:Type}{a b:α}(h:some a=some b):a=b:=Tz h
def cont {ρ σ β:Type}(o:Option (ρ ⊕ σ))(g:ρ->β)(f:σ->Option β):Option β:=
 match o with
 | none=>none
 | some (.inl r)=>some (g r)
 | some (.inr v)=>f v
theorem An {ρ σ β:Type}{o:Option (ρ ⊕ σ)}{g:ρ->β}{f:σ->Option β}{b:β}(h:cont o g f=some b):
  ∃v,o=some v/\(match v with|.inl r=>some (g r)|.inr v=>f v)=some b:=by
 unfold cont at h;split at h
 ·cases h
 ·exact⟨_,rfl,h⟩
 ·exact⟨_,rfl,h⟩
@[simp] theorem Qn {ρ σ β:Type}(r:ρ)(g:ρ->β)(f:σ->Option β):cont (some (.inl r)) g f=some (g r):=rfl
@[simp] theorem Ee {ρ σ β:Type}(v:σ)(g:ρ->β)(f:σ->Option β):cont (some (.inr v)) g f=f v:=rfl
theorem Ac {α:Type}{b:Bool}{x y:Option α}{r:α}(h:(if b=true then x else y)=some r):(b=true/\x=some r)∨(b=false/\y=some r):=by
 cases b
 ·exact .inr ⟨rfl,h⟩
 ·exact .inl ⟨rfl,h⟩
end Sh
namespace Go.Abs
open Go
def AX:List (Nat×AV)->Nat->AV
 | [],_=>.Bk
 | (t,v)::r,k=>if k=t then v else AX r k
def le (a b:AV):Prop:=∀F w os u,AF F w os a u->AF F w os b u
theorem le.rfl {a:AV}:le a a:=λ_ _ _ _ h=>h
theorem JY {a b:AV}(h:a=b):le a b:=h▸le.rfl
theorem le.Bk {a:AV}:le a .Bk:=λ_ _ _ _ _=>by simp[AF]
def PN:List AV->List AV->Prop
 | [],[]=>True
 | a::r,b::r'=>le a b/\PN r r'
 | _,_=>False
theorem PN.rep {F:Nat->Prop}{w:World}{os:List Own}:∀{xs ys:List AV} {us:List Value},PN xs ys->Ad F w os xs us->Ad F w os ys us
 | [],[],_,_,h=>h
 | a::r,b::r',us,h,h'=>by
  simp only[Ad]at h' ⊢;obtain⟨u,VK,e,h1,h2⟩:=h';exact⟨u,VK,e,h.1 _ _ _ _ h1,PN.rep h.2 h2⟩
 | [],_::_,_,h,_=>h.elim
 | _::_,[],_,h,_=>h.elim
theorem le.agg {xs ys:List AV}(h:PN xs ys):le (.agg xs) (.agg ys):=λF w os u hu=>by
 simp only[AF]at hu⊢;obtain⟨us,e,hl⟩:=hu;exact⟨us,e,h.rep hl⟩
def ME (e:Nat->AV):List (Nat×AV)->Prop
 | []=>True
 | (t,v)::r=>le (e t) v/\ME e r
theorem le.len {id g m m':Nat}(h:m=m'):le (.own id g m) (.own id g m'):=h▸le.rfl
theorem ME.le {e:Nat->AV}:∀{L:List (Nat×AV)},ME e L->∀t,le (e t) (AX L t)
 | [],_,_=>le.Bk
 | (t',v)::r,h,t=>by
  simp only[AX];split
  ·rename_i ht;subst ht;exact h.1
  ·exact ME.le h.2 t
variable {k n : Nat} {e : Nat -> AV} {st st' : List Row} {L : List (Nat × AV)}
theorem Wk.Qh {e':Nat->AV}(h :∀t,le (e t) (e' t)):Wk k ⟨n,e,st⟩ ⟨n,e',st⟩:=λF os _ w hr=>
 ⟨F,os,⟨hr.st,λt=>h t _ _ _ _ (hr.env t),hr.size,hr.rows,hr.inj,hr.CL,hr.defers⟩,BM _ _ _ _⟩
theorem AR (h:ME e L):Wk k ⟨n,e,st⟩ ⟨n,AX L,st⟩:=Wk.Qh h.le
theorem le.Dw {α:Type}{id g m:Nat}{l:List α}{enc:α->List AV}(h:m=l.length):le (Dw id g (l.map enc) (.own id g m)) (.sl (l.map enc)):=by
 subst h;refine JY ?_;rw[Od,<- SB (f:=enc) (as:=l),Sr,SH]
theorem Mq {α:Type}{id g m:Nat}{l:List α}{enc:α->List AV}(h:m=l.length):Dm id g (l.map enc) (.own id g m)=.sl (l.map enc):=by
 subst h;rw[N7,<- SB (f:=enc) (as:=l),Sr,SH]
theorem Wk.Dw {id g size:Nat}{el:TypeId}{xs:List (List AV)}(T0:st[id]?=some ⟨g,el,size,xs⟩)(WE:k<=id)(hp:Cu xs)
  (h:ME (λt=>Abs.Dw id g xs (e t)) L) (T8:st.set id ⟨g+1,el,size,[]⟩=st'):Wk k ⟨n,e,st⟩ ⟨n,AX L,st'⟩:=by
 subst T8;exact (Wk.freeze (s:=⟨n,e,st⟩) WE T0 hp).trans (AR h)
def JD (AP:List Nat):List Row->Prop
 | []=>True
 | row::r=>(∀x∈row.xs,∀c∈x,stays AP c=true)/\JD AP r
theorem JD.deep {AP:List Nat}{row:Row}{r:List Row}(h:Au row.xs)(hr:JD AP r):JD AP (row::r):=⟨λx hx c hc=>by
 have:=h x hx c hc;cases c<;>simp[BP,simple,stays]at this⊢,hr⟩
theorem JD.pure {AP:List Nat}{row:Row}{r:List Row}(h:Cu row.xs)(hr:JD AP r):JD AP (row::r):=.deep h.any hr
theorem JD.get {AP:List Nat}:∀{l:List Row},JD AP l->∀row∈l,∀x∈row.xs,∀c∈x,stays AP c=true
 | row::r,h,row',hm=>by
  rcases SA.1 hm with rfl|hm
  ·exact h.1
  ·exact JD.get h.2 row' hm
theorem Kf (AP:List Nat)(hk:AP.take k=List.range k)(VF:AP.Nodup)(T9:AP.all (·<st.length)=true)(T8:BL st AP=st')(hr:JD AP st')(h:ME (λt=>Ez AP (e t)) L):
  Wk k ⟨n,e,st⟩ ⟨n,AX L,st'⟩:=by
 subst T8;refine (Wk.select (s:=⟨n,e,st⟩) AP (λi hi=>?_) VF (λi hi=>by simpa using Ru.1 T9 i hi) (λi hi row T0=>?_)).trans (AR h)
 ·have h1:(AP.take k)[i]?=some i:=by rw[hk];simp[hi]
  rw[R6]at h1;simpa [hi] using h1
 ·exact hr.get row (So.2 ⟨i,hi,T0⟩)
def Ja (st:List Row):AV->AV
 | .own id g n=>match st[id]? with
  | some row=>if row.gen=g then .own id 0 n else .Bk
  | none=>.Bk
 | .ptr id g i off=>match st[id]? with
  | some row=>if row.gen=g then .ptr id 0 i off else .Bk
  | none=>.Bk
 | .fn ..|.agg _|.BK _=>.Bk
 | v=>v
def Im (st:List Row)(x:AV):AV:=two (Ja st) x
def rg (st:List Row):AV->AV
 | .fn f cs=>.fn f (cs.map (Im st))
 | .agg cs=>.agg (cs.map (Im st))
 | .BK cs=>.BK (cs.map (Im st))
 | v=>Im st v
def DA (st:List Row)(row:Row):Row:={ row with gen:=0,xs:=row.xs.map (·.map (Im st)) }
def DR (st:List Row)(o:Own):Own:={ o with row:=DA st o.row }
theorem PH {F:Nat->Prop}{w:World}{os:List Own}(T8:os.map Own.row=st){x:AV}{v:Value}(h:AF F w os x v):AF F w (os.map (DR st)) (Ja st x) v:=by
 have hs:∀{id:Nat} {o:Own},os[id]?=some o->st[id]?=some o.row:=λ{id o} ho=>by rw[<- T8,Ro,ho];rfl
 cases x with
 | own id g n=>
  simp only[AF]at h;obtain⟨o,ho,hle,hsh,hv⟩:=h;simp only[Ja,hs ho];split
  ·rename_i e;obtain⟨h1,h2⟩:=hv e;simp only[AF];exact⟨DR st o,by simp[ho],R5 _,hsh,λ_=>⟨by simpa [DR,DA] using h1,by simpa [DR,DA] using h2⟩⟩
  ·simp[AF]
 | ptr id g i off=>
  simp only[AF]at h;obtain⟨o,ho,hle,hsh,hv⟩:=h;simp only[Ja,hs ho];split
  ·rename_i e;obtain⟨h1,h2,h3⟩:=hv e;simp only[AF];exact⟨DR st o,by simp[ho],R5 _,hsh,λ_=>⟨by simpa [DR,DA] using h1,h2,h3⟩⟩
  ·simp[AF]
 | fn f Uh=>simp[Ja,AF]
 | agg cs=>simp[Ja,AF]
 | BK cs=>simp[Ja,AF]
 | _=>simp only[Ja,AF]at h⊢<;>exact h
theorem I1 {F:Nat->Prop}{w:World}{os:List Own}(T8:os.map Own.row=st){x:AV}{v:Value}(h:AF F w os x v):AF F w (os.map (DR st)) (Im st x) v:=
 FI (λ_ _ h=>PH T8 h) _ _ h
theorem IH {F:Nat->Prop}{w:World}{os:List Own}(T8:os.map Own.row=st){xs:List AV}{us:List Value}(h:Ad F w os xs us):Ad F w (os.map (DR st)) (xs.map (Im st)) us:=
 BQ (by simp[Aa h]) λi x u hx hu=>by
  simp only[Ro,Rr]at hx;obtain⟨y,hy,rfl⟩:=hx;obtain⟨u',VC,hr⟩:=Aj h i y hy;rw[VC]at hu;cases hu;exact I1 T8 hr
theorem P0 {F:Nat->Prop}{w:World}{os:List Own}(T8:os.map Own.row=st){x:AV}{v:Value}(h:AF F w os x v):AF F w (os.map (DR st)) (rg st x) v:=by
 cases x with
 | fn f cs=>simp only[rg,AF]at h⊢;obtain⟨us,e,hl⟩:=h;exact⟨us,e,IH T8 hl⟩
 | agg cs=>simp only[rg,AF]at h⊢;obtain⟨us,e,hl⟩:=h;exact⟨us,e,IH T8 hl⟩
 | BK cs=>simp only[rg,AF]at h⊢;obtain⟨us,e,hl⟩:=h;exact⟨us,e,IH T8 hl⟩
 | _=>exact I1 T8 h
def Ed (st:List Row):Prop:=∀row∈st,∀x∈row.xs,∀c∈x,c.kept=true
theorem Pu {st:List Row}{c:AV}{el s:Nat}{ys:List (List AV)}(h:Im st c=.dv el s ys):c=.dv el s ys:=by
 refine LZ (X:=Ja st) (λc h=>?_) h;cases c<;>simp only[Ja]at h<;>first|exact h|cases h|(split at h<;>first|cases h|(split at h<;>cases h))
theorem Wk.QS (hl:Ed (st.map (DA st))):Wk 0 ⟨n,e,st⟩ ⟨n,λt=>rg st (e t),st.map (DA st)⟩:=λF os a w hr=>by
 have T8:=hr.st;simp only at T8;refine⟨F,os.map (DR st),⟨?_,λt=>P0 T8 (hr.env t),hr.size,λi o ho=>?_,λi j oi oj b hi hj V2 V3=>?_,hr.CL,hr.defers⟩,⟨rfl,rfl,rfl,Rz _,λ_ h=>h,λ_ _=>rfl,λb _ h1 h2=>⟨rfl,h1,λo ho=>?_⟩,λi o hi=>absurd hi (Nat.not_lt_zero _)⟩⟩
 ·simp only[<- T8,Sq];congr 1
 ·rw[Ro,Rr]at ho;obtain⟨o0,ho0,rfl⟩:=ho;have T2:=hr.rows i o0 ho0;have hm:DA st o0.row∈st.map (DA st):=R7.2 ⟨o0.row,by rw[<- T8];exact R7.2 ⟨o0,Rk ho0,rfl⟩,rfl⟩;refine⟨T2.pos,λx hx=>⟨?_,hl _ hm x hx⟩,λh=>?_,λb hb=>?_,T2.mo,T2.deep.keep rfl (λ_ h=>h) rfl (λ_ _=>rfl) (λi x j e s ys hx hc=>by
   simp only[DR,DA,Ro,Rr]at hx;obtain⟨y,hy,rfl⟩:=hx;simp only[Ro,Rr]at hc;obtain⟨d,hd,hc⟩:=hc;exact⟨y,hy,by rw[hd,Pu hc]⟩)⟩
  ·simp only[DR,DA,R7]at hx;obtain⟨y,hy,rfl⟩:=hx;simpa [DR,DA] using (T2.lens y hy).1
  ·obtain⟨h1,h2⟩:=T2.none h;exact⟨by simpa [DR,DA] using FG (Im st) (λ_ _=>rfl) h1,h2⟩
  ·obtain⟨h1,cur,h2,h3,h4,h5,h6⟩:=T2.some b hb;refine⟨h1,cur,h2,h3,by simpa [DR,DA] using h4,h5,λi' x hx j c hc=>?_⟩;simp only[DR,DA,Ro,Rr]at hx;obtain⟨y,hy,rfl⟩:=hx;simp only[Ro,Rr]at hc;obtain⟨d,hd,rfl⟩:=hc;obtain⟨u,e1,e2⟩:=h6 i' y hy j d hd;exact⟨u,e1,I1 T8 e2⟩
 ·rw[Ro,Rr]at hi hj;obtain⟨XX,hi0,rfl⟩:=hi;obtain⟨cr,hj0,rfl⟩:=hj;exact hr.inj i j XX cr b hi0 hj0 V2 V3
 ·obtain⟨o0,h0,rfl⟩:=R7.1 ho;exact h2 o0 h0
inductive RG (st:List Row):List Row->List Row->Prop
 | nil:RG st [] []
 | deep {g size:Nat} {el:TypeId} {xs:List (List AV)} {r r':List Row} (hp:Au xs) (hl:RG st r r'):RG st (⟨g,el,size,xs⟩::r) (⟨0,el,size,xs⟩::r')
 | raw {g size:Nat} {el:TypeId} {cs cs':List AV} {r r':List Row} (hc:cs.map (Im st)=cs') (hp:cs'.all AV.leaf=true) (hl:RG st r r'):RG st (⟨g,el,size,[cs]⟩::r) (⟨0,el,size,[cs']⟩::r')
theorem RG.pure {g size:Nat}{el:TypeId}{xs:List (List AV)}{r r':List Row}(hp:Cu xs)(hl:RG st r r'):RG st (⟨g,el,size,xs⟩::r) (⟨0,el,size,xs⟩::r'):=.deep hp.any hl
theorem LY {c:AV}(h:BP c=true):Im st c=c:=by cases c<;>simp[BP,simple,Im,two,Ja]at h⊢
theorem RG.spec {st0:List Row}(hle :∀row∈st0,∀x∈row.xs,∀c∈x,c.kept=true):∀{l l':List Row},RG st l l'->(∀row∈l,row∈st0)->l.map (DA st)=l'/\Ed l'
 | _,_,.nil,_=>⟨rfl,λ_ h=>by cases h⟩
 | _,_,.deep hp hl,hm=>by
  obtain⟨h1,h2⟩:=RG.spec hle hl (λrow h=>hm row (Sc _ h));have Xq:=hle _ (hm _ (Sn ..));refine⟨?_,?_⟩
  ·simp only[R9,h1];congr 1;simp only[DA];congr 1;refine (R4 (g:=id) λx hx=>?_).trans (Sj _);refine (R4 (g:=id) λc hc=>?_).trans (Sj _);exact LY (hp x hx c hc)
  ·intro row T0;rcases SA.1 T0 with rfl|h
   ·exact Xq
   ·exact h2 row h
 | _,_,.raw hc hp hl,hm=>by
  obtain⟨h1,h2⟩:=RG.spec hle hl (λrow h=>hm row (Sc _ h));refine⟨?_,?_⟩
  ·simp only[R9,h1,DA,S7,hc]
  ·intro row T0;rcases SA.1 T0 with rfl|h
   ·intro x hx c ZG;simp only[R8]at hx;subst hx;exact Bd (Ru.1 hp c ZG)
   ·exact h2 row h
theorem Cc (hg:RG st st st')(h:ME (λt=>Abs.rg st (e t)) L):Wk 0 ⟨n,e,st⟩ ⟨n,AX L,st'⟩:=λF os a w hr=>by
 have hle:∀row∈st,∀x∈row.xs,∀c∈x,c.kept=true:=λrow T0 x hx c hc=>by
  have T8:=hr.st;simp only at T8;rw[<- T8]at T0;obtain⟨o,ho,rfl⟩:=R7.1 T0;obtain⟨i,hi⟩:=R0.1 ho;exact ((hr.rows i o hi).lens x hx).2 c hc
 obtain⟨h1,h2⟩:=hg.spec (st0:=st) hle (λ_ h=>h);have h3:Wk 0 ⟨n,e,st⟩ ⟨n,AX L,st'⟩:=by
  have:=Wk.QS (n:=n) (e:=e) (st:=st) (by rw[h1];exact h2);rw[h1]at this;exact this.trans (AR h)
 exact h3 F os a w hr
theorem AK {α:Type}{l:List α}{enc:α->List AV}(h :∀x,(enc x).all simple=true):Cu (l.map enc):=λx hx c hc=>by
 obtain⟨y,_,rfl⟩:=R7.1 hx;exact Ru.1 (h y) c hc
theorem CI {α:Type}{l:List α}{enc:α->List AV}(h :∀x,(enc x).all simple=true):Au (l.map enc):=(AK h).any
theorem Bg {α:Type}{l:List α}{enc:α->List AV}(h :∀x,(enc x).all BP=true):Au (l.map enc):=λx hx c hc=>by
 obtain⟨y,_,rfl⟩:=R7.1 hx;exact Ru.1 (h y) c hc
end Go.Abs
