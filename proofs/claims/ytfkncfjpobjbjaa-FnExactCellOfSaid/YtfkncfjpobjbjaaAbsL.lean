import Derived.Test.YtfkncfjpobjbjaaAbsK
set_option linter.all false
namespace Go.Abs
open Go
variable {P : Program} {F : Nat -> Prop} {os : List Own} {s : St} {a : Act} {w : World} {k : Nat}
def Dk (id g:Nat)(xs:List (List AV)):AV->AV
 | .own Uz g' n=>if Uz=id/\g'=g then .sl (xs.drop (xs.length-n)) else .own Uz g' n
 | .ptr Uz g' i off=>if Uz=id/\g'=g then (match xs[i]? with|some x=>.A4 x off|none=>.Bl) else .ptr Uz g' i off
 | v=>v
def DT (id g:Nat)(xs:List (List AV)):AV->AV
 | .agg cs=>.agg (cs.map (Dk id g xs))
 | .BB cs=>.BB (cs.map (Dk id g xs))
 | v=>Dk id g xs v
def C1 (xs:List (List AV)):Prop:=∀x∈xs,∀c∈x,simple c=true
def Au (xs:List (List AV)):Prop:=∀x∈xs,∀c∈x,BQ c=true
theorem C1.any {xs:List (List AV)}(h:C1 xs):Au xs:=λx hx c hc=>EY (h x hx c hc)
theorem Wk.freeze {id:Nat}{row:Row}(WJ:k<=id)(T4:s.st[id]?=some row)(hp:C1 row.xs):
  Wk k s ⟨s.n,λt=>DT id row.gen row.xs (s.env t),s.st.set id { row with gen:=row.gen+1,xs:=[] }⟩:=λF os a w hr=>by
 obtain⟨o,ho,rfl⟩:=hr.row T4;have T6:=hr.rows id o ho;have V3:∀x∈o.row.xs,∀c∈x,c.leaf=true:=λx hx c hc=>by
  have h1:=hp x hx c hc;have h2:=(T6.lens x hx).2 c hc;cases c<;>simp_all [simple,AV.leaf,AV.kept]
 refine⟨λb=>F b∨o.BW=some b,os.set id ⟨{ o.row with gen:=o.row.gen+1,xs:=[] },none,0,o.more⟩,?_,?_⟩
 case refine_2=>
  refine⟨rfl,rfl,rfl,R3 _,λ_ h=>.inl h,λ_ _=>rfl,λb _ h1 h2=>⟨rfl,λh=>h.elim h1 (λe=>h2 o (Ro ho) (.inl e)),λo' UZ=>?_⟩,λi oi hi bt=>⟨oi,?_,R3 _,rfl,λ_=>⟨rfl,rfl,rfl⟩⟩⟩
  ·rcases SU UZ with h|rfl
   ·exact h2 o' h
   ·intro hh;rcases hh with hh|hh
    ·simp at hh
    ·exact h2 o (Ro ho) (.inr hh)
  ·rw[R2 (by omega)];exact bt
 have hF:∀b,F b->(λb=>F b∨o.BW=some b) b:=λ_ h=>.inl h;have Uh:Bz os (os.set id ⟨{ o.row with gen:=o.row.gen+1,xs:=[] },none,0,o.more⟩):=Bz.set ho (by simp) rfl (λe=>by simp at e);have T8:∀x v,AF F w os x v->AF (λb=>F b∨o.BW=some b) w (os.set id ⟨{ o.row with gen:=o.row.gen+1,xs:=[] },none,0,o.more⟩) x v:=λx v h=>
  A8 hF (λ_ _=>rfl) os _ Uh x v h
 have Um:∀x∈o.row.xs,∀c∈x,∀u,AF F w os c u->AF (λb=>F b∨o.BW=some b) w [] c u:=λx hx c hc u hu=>
  A8 hF (λ_ _=>rfl) [] [] (by simp) c u (CP (hp x hx c hc) [] hu)
 have h1:∀x v,AF F w os x v->AF (λb=>F b∨o.BW=some b) w (os.set id ⟨{ o.row with gen:=o.row.gen+1,xs:=[] },none,0,o.more⟩) (Dk id o.row.gen o.row.xs x) v:=λx v h=>by
  cases x with
  | own Uz g' n=>
   simp only[Dk];split
   ·rename_i bq;obtain⟨rfl,rfl⟩:=bq;simp only[AF]at h⊢;obtain⟨o',UZ,_,_,h⟩:=h;rw[ho]at UZ;cases UZ;obtain⟨hn,hv⟩:=h rfl;have hlen:(o.row.xs.drop (o.row.xs.length-n)).length=n:=by simp;omega
    rcases hv with ⟨hb,Vf,ad,rfl⟩|⟨b,hb,rfl⟩
    ·have:=(T6.nil hb Vf).1;rw[this]at hn;simp only[S3,Tr]at hn;subst hn;exact⟨ad,0,by simp,by simp,by simp⟩
    ·obtain⟨_,cur,UK,Uc,hle,_,UJ⟩:=T6.some b hb;refine⟨_,o.cap-(o.row.xs.length-n),by rw[hlen],by rw[hlen];omega,λ_=>⟨b,(o.row.xs.length-n)*o.row.size,o.row.size,rfl,.inr hb,λx hx=>(T6.lens x (Se hx)).1,?_⟩⟩;refine Di (λx hx=>(T6.lens x (Se hx)).1) λi x hx=>DQ λj c hc=>?_;have Wd:=Ro hx;rw[SX]at hx;obtain⟨u,e1,e2⟩:=UJ _ x hx j c hc;refine⟨u,?_,V3 x (Ro hx) c (Ro hc),Um x (Ro hx) c (Ro hc) u e2⟩;rw[TM w b _ cur _ _ UK];rw[<- SQ];exact e1
   ·exact T8 _ _ h
  | ptr Uz g' i off=>
   simp only[Dk];split
   ·rename_i bq;obtain⟨rfl,rfl⟩:=bq;simp only[AF]at h;obtain⟨o',UZ,_,_,h⟩:=h;rw[ho]at UZ;cases UZ;obtain⟨hi,_,b,hb,rfl⟩:=h rfl;rw[Rt hi];obtain⟨_,cur,UK,Uc,hle,_,UJ⟩:=T6.some b hb;simp only[AF];refine⟨b,i*o.row.size,rfl,.inr hb,DQ λj c hc=>?_⟩;have hm:=S7 hi;obtain⟨u,e1,e2⟩:=UJ i _ (Rt hi) j c hc;refine⟨u,?_,V3 _ hm c (Ro hc),Um _ hm c (Ro hc) u e2⟩;rw[TM w b _ cur _ _ UK];exact e1
   ·exact T8 _ _ h
  | _=>exact T8 _ _ h
 have hL:∀xs us,Ad F w os xs us->Ad (λb=>F b∨o.BW=some b) w (os.set id ⟨{ o.row with gen:=o.row.gen+1,xs:=[] },none,0,o.more⟩) (xs.map (Dk id o.row.gen o.row.xs)) us:=λxs us h=>
  BP (by simp[Ab h]) λi x u hx hu=>by
   simp only[Rs,Rv]at hx;obtain⟨y,hy,rfl⟩:=hx;obtain⟨u',e1,e2⟩:=Al h i y hy;rw[hu]at e1;cases e1;exact h1 _ _ e2
 have T9:∀(i:Nat) (oi:Own),(os.set id ⟨{ o.row with gen:=o.row.gen+1,xs:=[] },none,0,o.more⟩)[i]?=some oi->(i≠id/\os[i]?=some oi)∨(i=id/\oi=⟨{ o.row with gen:=o.row.gen+1,xs:=[] },none,0,o.more⟩):=λi oi hi=>by
  by_cases e:i=id
  ·subst e;rw[Rw (Rq.1 ho).1,Rr]at hi;exact .inr ⟨rfl,hi.symm⟩
  ·rw[R2 (Sc e)]at hi;exact .inl ⟨e,hi⟩
 refine⟨by rw[Sf,hr.st],λt=>?_,hr.size,λi oi hi=>?_,λi j oi oj b hi hj V6 V7=>?_,λb hb=>?_,hr.defers⟩
 ·have:=hr.env t;simp only;generalize s.env t=x at this⊢;cases x with
  | agg cs=>simp only[DT,AF]at this⊢;obtain⟨us,e,h⟩:=this;exact⟨us,e,hL _ _ h⟩
  | BB cs=>simp only[DT,AF]at this⊢;obtain⟨us,e,h⟩:=this;exact⟨us,e,hL _ _ h⟩
  | _=>exact h1 _ _ this
 ·rcases T9 i oi hi with ⟨Ua,h⟩|⟨_,rfl⟩
  ·have Ut:=hr.rows i oi h;refine⟨Ut.pos,Ut.lens,Ut.none,λb hb=>?_,λb hb=>⟨λhF=>hF.elim (Ut.mo b hb).1 (λW3=>Ua (hr.inj i id oi o b h ho (.inr hb) (.inl W3))),(Ut.mo b hb).2⟩,Ut.deep⟩;obtain⟨e1,cur,e2,e3,e4,e5,e6⟩:=Ut.some b hb;refine⟨λhF=>hF.elim e1 (λW3=>Ua (hr.inj i id oi o b h ho (.inl hb) (.inl W3))),cur,e2,e3,e4,e5,λi' x hx j c hc=>?_⟩;obtain⟨u,f1,f2⟩:=e6 i' x hx j c hc;exact⟨u,f1,T8 _ _ f2⟩
  ·exact⟨T6.pos,by simp,by simp,by simp,λb hb=>⟨λhF=>hF.elim (T6.mo b hb).1 (T6.mo b hb).2.2,(T6.mo b hb).2.1,by simp⟩,B3 (by simp)⟩
 ·rcases T9 i oi hi with ⟨Ua,h⟩|⟨h,rfl⟩<;>rcases T9 j oj hj with ⟨Yo,h'⟩|⟨h',rfl⟩
  ·exact hr.inj i j oi oj b h h' V6 V7
  ·exact hr.inj i j oi o b h (h'▸ho) V6 (V7.elim (λe=>by simp at e) .inr)
  ·exact hr.inj i j o oj b (h▸ho) h' (V6.elim (λe=>by simp at e) .inr) V7
  ·omega
 ·rcases hb with hb|hb
  ·exact hr.CL b hb
  ·obtain⟨_,cur,UK,_⟩:=T6.some b hb;exact (Sd.1 UK).1
def E8 (m:Nat):AV->AV
 | .own id g n=>.own (id+m) g n
 | .ptr id g i off=>.ptr (id+m) g i off
 | .fn ..|.agg _|.BB _=>.Bl
 | v=>v
def Gx (m:Nat)(x:AV):AV:=two (E8 m) x
def shift (m:Nat):AV->AV
 | .fn f cs=>.fn f (cs.map (Gx m))
 | .agg cs=>.agg (cs.map (Gx m))
 | .BB cs=>.BB (cs.map (Gx m))
 | v=>Gx m v
theorem Mk {UU:List Own}{x:AV}{v:Value}(h:AF F w UU x v):AF F w (os++UU) (E8 os.length x) v:=by
 have T9:∀id,(os++UU)[id+os.length]?=UU[id]?:=λid=>by rw[Rz (by omega)];congr 1;omega
 cases x with
 | own id g n=>simp only[E8,AF]at h⊢;rw[T9];exact h
 | ptr id g i off=>simp only[E8,AF]at h⊢;rw[T9];exact h
 | fn f cs=>simp[E8,AF]
 | agg cs=>simp[E8,AF]
 | BB cs=>simp[E8,AF]
 | _=>simp only[E8,AF]at h⊢<;>exact h
theorem Ij {UU:List Own}{x:AV}{v:Value}(h:AF F w UU x v):AF F w (os++UU) (Gx os.length x) v:=
 FL (λ_ _ h=>Mk h) _ _ h
theorem Fp {UU:List Own}{xs:List AV}{us:List Value}(h:Ad F w UU xs us):Ad F w (os++UU) (xs.map (Gx os.length)) us:=
 BP (by simp[Ab h]) λi x u hx hu=>by
  simp only[Rs,Rv]at hx;obtain⟨y,hy,rfl⟩:=hx;obtain⟨u',e1,e2⟩:=Al h i y hy;rw[hu]at e1;cases e1;exact Ij e2
theorem HO {UU:List Own}{x:AV}{v:Value}(h:AF F w UU x v):AF F w (os++UU) (shift os.length x) v:=by
 cases x with
 | fn f cs=>simp only[shift,AF]at h⊢;obtain⟨us,e,hl⟩:=h;exact⟨us,e,Fp hl⟩
 | agg cs=>simp only[shift,AF]at h⊢;obtain⟨us,e,hl⟩:=h;exact⟨us,e,Fp hl⟩
 | BB cs=>simp only[shift,AF]at h⊢;obtain⟨us,e,hl⟩:=h;exact⟨us,e,Fp hl⟩
 | _=>exact Ij h
def Ez:AV->Bool
 | .sl _|.mv _|.A4 ..|.fn ..|.agg _|.BB _=>false
 | _=>true
def Mp:AV->Bool
 | .agg cs=>cs.all Ez
 | v=>Ez v
def MH:AV->Bool
 | .BB cs=>cs.all Mp
 | v=>Mp v
theorem HZ {F':Nat->Prop}{x:AV}{v:Value}(hx:Ez x=true)(h:AF F w os x v):AF F' w os x v:=by
 cases x<;>simp only[Ez,R4]at hx<;>simp only[AF]at h⊢<;>exact h
theorem I8 {F':Nat->Prop}{x:AV}{v:Value}(hx:Mp x=true)(h:AF F w os x v):AF F' w os x v:=by
 cases x with
 | agg cs=>
  simp only[AF]at h⊢;obtain⟨us,e,hl⟩:=h;refine⟨us,e,BP (Ab hl) λi x u Wv hu=>?_⟩;obtain⟨u',e1,e2⟩:=Al hl i x Wv;rw[hu]at e1;cases e1;exact HZ (Ry.1 hx x (Ro Wv)) e2
 | _=>exact HZ hx h
theorem Ky {F':Nat->Prop}{x:AV}{v:Value}(hx:MH x=true)(h:AF F w os x v):AF F' w os x v:=by
 cases x with
 | BB cs=>
  simp only[AF]at h⊢;obtain⟨us,e,hl⟩:=h;refine⟨us,e,BP (Ab hl) λi x u Wv hu=>?_⟩;obtain⟨u',e1,e2⟩:=Al hl i x Wv;rw[hu]at e1;cases e1;exact I8 (Ry.1 hx x (Ro Wv)) e2
 | _=>exact I8 hx h
theorem Rel.join {F0 F':Nat->Prop}{w':World}{UU:List Own}{st1:List Row}(hr:Rel F0 os s a w')(hs:CA F' UU st1 w')(aR :∀b,F0 b->F' b)(hp :∀row∈st1,Au row.xs)
  (aw:(∀b,F' b->F0 b)∨∀row∈st1,∀x∈row.xs,∀c∈x,Ez c=true) (Uq :∀(i:Nat) (o:Own),os[i]?=some o->∀b,o.owns b->∀o1:Own,o1∈UU->¬ o1.owns b) :
  Rel F0 (os++UU) { s with st:=s.st++st1 } a w':=by
 have Uh:Bz os (os++UU):=Bz.append os UU;have T8:∀x v,AF F0 w' os x v->AF F0 w' (os++UU) x v:=λx v h=>A8 (λ_ h=>h) (λ_ _=>rfl) os _ Uh x v h;have T9:∀(i:Nat) (o:Own),(os++UU)[i]?=some o->(i<os.length/\os[i]?=some o)∨(os.length<=i/\UU[i-os.length]?=some o):=λi o h=>by
  by_cases hi:i<os.length
  ·rw[Rx hi]at h;exact .inl ⟨hi,h⟩
  ·rw[Rz (by omega)]at h;exact .inr ⟨by omega,h⟩
 refine⟨by rw[Sj,hr.st,hs.st],λt=>T8 _ _ (hr.env t),hr.size,λi o ho=>?_,λi j oi oj b hi hj V6 V7=>?_,hr.CL,hr.defers⟩
 ·rcases T9 i o ho with ⟨_,h⟩|⟨_,h⟩
  ·have T6:=hr.rows i o h;refine⟨T6.pos,T6.lens,T6.none,λb hb=>?_,T6.mo,T6.deep⟩;obtain⟨e1,cur,e2,e3,e4,e5,e6⟩:=T6.some b hb;exact⟨e1,cur,e2,e3,e4,e5,λi' x hx j c hc=>by obtain⟨u,f1,f2⟩:=e6 i' x hx j c hc;exact⟨u,f1,T8 _ _ f2⟩⟩
  ·have T6:=hs.rows _ o h;refine⟨T6.pos,T6.lens,T6.none,λb hb=>?_,λb hb=>⟨λhF=>(T6.mo b hb).1 (aR b hF),(T6.mo b hb).2⟩,T6.deep⟩;obtain⟨e1,cur,e2,e3,e4,e5,e6⟩:=T6.some b hb;refine⟨λhF=>e1 (aR b hF),cur,e2,e3,e4,e5,λi' x hx j c hc=>?_⟩;obtain⟨u,f1,f2⟩:=e6 i' x hx j c hc;have T4:o.row∈st1:=by rw[<- hs.st];exact R9.2 ⟨o,Ro h,rfl⟩
   have cy:=hp o.row T4 x (Ro hx) c (Ro hc);have f3:=Lm cy (os++UU) f2;refine⟨u,f1,?_⟩;rcases aw with h1|h1
   ·exact A8 h1 (λ_ _=>rfl) _ _ (B2 _) c u f3
   ·exact HZ (h1 o.row T4 x (Ro hx) c (Ro hc)) f3
 ·rcases T9 i oi hi with ⟨_,h⟩|⟨_,h⟩<;>rcases T9 j oj hj with ⟨_,h'⟩|⟨_,h'⟩
  ·exact hr.inj i j oi oj b h h' V6 V7
  ·exact absurd V7 (Uq i oi h b V6 oj (Ro h'))
  ·exact absurd V6 (Uq j oj h' b V7 oi (Ro h))
  ·have:=hs.inj _ _ oi oj b h h' V6 V7;omega
theorem Gh {f:FuncId}{args:List AV}{d:Option Tmp}{K:St->Prop}{R:AV->List Row->Prop}(h:AY P f args [] R)(hf:args.all flat=true)
  (hK :∀r st',R r st'->(∀row∈st',Au row.xs)/\K ({ s with st:=s.st++st' }.put d (shift s.st.length r))):callThen P k s f args d K:=by
 intro F os a w vs hr hl;refine (h F [] w vs (CA.nil hr.CL) (Fk hf [] hl)).mono ?_;rintro e w' ⟨u,r,st',F',UU,rfl,hR,hs,hru,he⟩;obtain⟨hp,hk⟩:=hK r st' hR;obtain⟨h1,h2,_,Uq⟩:=hr.after (k:=k) he hs.CL;refine⟨u,_,s.st++st',F',os++UU,rfl,hk,h1.join hs (λ_ h=>h) hp (.inl λ_ h=>h) Uq,?_,?_⟩
 ·rw[hr.len];exact HO hru
 ·refine⟨h2.sys,h2.tape,h2.output,h2.size,h2.FT,h2.DC,λb hb e1 e2=>?_,λi o hi ho=>?_⟩
  ·obtain⟨f1,f2,f3⟩:=he.other b hb e1 (by simp);exact⟨f1,f2,λo ho=>by rcases SM.1 ho with h|h;exact e2 o h;exact f3 o h⟩
  ·exact Bz.append os UU i o ho
mutual
def Hd:AV->AV
 | .dv _ _ xs=>.sl (DS xs)
 | c=>c
def DS:List (List AV)->List (List AV)
 | []=>[]
 | x::r=>Da x::DS r
def Da:List AV->List AV
 | []=>[]
 | c::r=>Hd c::Da r
end
theorem DD:∀x:List AV,Da x=x.map Hd
 | []=>by simp[Da]
 | c::r=>by simp[Da,DD r]
theorem CO:∀xs:List (List AV),DS xs=xs.map Da
 | []=>by simp[DS]
 | x::r=>by simp[DS,CO r]
theorem EM {c:AV}(h:simple c=true):Hd c=c:=by cases c<;>simp_all [simple,Hd]
theorem Mm {xs:List (List AV)}(h:C1 xs):DS xs=xs:=by
 rw[CO];refine (R8 (g:=id) λx hx=>?_).trans (Sn _);rw[DD];exact (R8 (g:=id) λc hc=>EM (h x hx c hc)).trans (Sn _)
mutual
theorem IC {S F:Nat->Prop}{w:World}(hS :∀b,S b->F b):∀(x:AV) (v:Value),A9 S w x v->AF F w [] (Hd x) v/\(Hd x).leaf=true
 | .dv el size xs,v,h=>by
  simp only[A9]at h;obtain⟨hp,h⟩:=h;simp only[Hd,AF,AV.leaf,and_true];rcases h with ⟨rfl,a,rfl⟩|⟨b,cap,cur,rfl,h2,h3,h4,h5,h6,h7,h8⟩
  ·exact⟨a,0,by simp[DS],by simp[DS],by simp[DS]⟩
  ·refine⟨_,cap,by simp[CO],by simpa [CO] using h2,λ_=>⟨b,0,size,rfl,hS b h4,λx hx=>?_,Jh (S:=λc=>S c/\c≠b) (λc hc=>hS c hc.1) h5 xs 0 h8⟩⟩;rw[CO]at hx;obtain⟨y,hy,rfl⟩:=R9.1 hx;rw[DD,SF];exact h7 y hy
 | .int _ _,_,h=>by simpa [A9,Hd,AF,AV.leaf] using h
 | .bool _,_,h=>by simpa [A9,Hd,AF,AV.leaf] using h
 | .str _,_,h=>by simpa [A9,Hd,AF,AV.leaf] using h
 | .zc,_,h=>by simpa [A9,Hd,AF,AV.leaf] using h
 | .G7,_,h=>by simpa [A9,Hd,AF,AV.leaf] using h
 | .G1,_,h=>by simpa [A9,Hd,AF,AV.leaf] using h
 | .Bl,_,h=>by simp[A9]at h
 | .un,_,h=>by simp[A9]at h
 | .sl _,_,h=>by simp[A9]at h
 | .own ..,_,h=>by simp[A9]at h
 | .ptr ..,_,h=>by simp[A9]at h
 | .A4 ..,_,h=>by simp[A9]at h
 | .fn ..,_,h=>by simp[A9]at h
 | .agg _,_,h=>by simp[A9]at h
 | .BB _,_,h=>by simp[A9]at h
theorem Jh {S F:Nat->Prop}{w:World}(hS :∀b,S b->F b){b:Nat}{cur:Array Value}{el:TypeId}(UK:w.heap[b]?=some (.cells cur el (0,0))):∀(xs:List (List AV)) (o:Nat),EA S w xs cur o->CS F w (DS xs) b o
 | [],_,_=>by simp[DS,CS]
 | x::r,o,h=>by
  simp only[EA]at h;simp only[DS,CS];obtain⟨S1,S2,h1,h2,_,h4,h5⟩:=h;have hl:(Da x).length=x.length:=by rw[DD,SF]
  rw[hl];exact⟨JX (λc hc=>hS c (h1 c hc)) UK x o h4,Jh (λc hc=>hS c (h2 c hc)) UK r _ h5⟩
theorem JX {S F:Nat->Prop}{w:World}(hS :∀b,S b->F b){b:Nat}{cur:Array Value}{el:TypeId}(UK:w.heap[b]?=some (.cells cur el (0,0))):∀(xs:List AV) (o:Nat),EB S w xs cur o->Ba F w (Da xs) b o
 | [],_,_=>by simp[Da,Ba]
 | x::r,o,h=>by
  simp only[EB]at h;simp only[Da,Ba];obtain⟨S1,S2,h1,h2,_,⟨u,h4,h5⟩,h6⟩:=h;obtain⟨g1,g2⟩:=IC (λc hc=>hS c (h1 c hc)) x u h5;exact⟨⟨u,by rw[TM w b _ cur _ _ UK];exact h4,g2,g1⟩,JX (λc hc=>hS c (h2 c hc)) UK r _ h6⟩
end
def Hl (st:List Row):AV->AV
 | .own id g n=>match st[id]? with
  | some row=>if row.gen=g then .sl (DS (row.xs.drop (row.xs.length-n))) else .Bl
  | none=>.Bl
 | v=>v
def C0 (st:List Row):AV->AV
 | .agg cs=>.agg (cs.map (Hl st))
 | v=>Hl st v
def Gt (args:List AV)(id g n:Nat):Prop:=AV.own id g n∈args∨∃cs,AV.agg cs∈args/\AV.own id g n∈cs
def Ho (F:Nat->Prop)(os:List Own)(args:List AV)(b:Nat):Prop:=F b∨∃id g n o,Gt args id g n/\os[id]?=some o/\o.owns b
theorem IH (hr:Rel F os s a w){F1:Nat->Prop}(W8 :∀b,F b->F1 b){id g n:Nat}{o:Own}(ho:os[id]?=some o)(hl :∀b,o.owns b->F1 b)(Vy:Au o.row.xs){u:Value}
  (e2:AF F w os (.own id g n) u) (hg:o.row.gen=g):AF F1 w os (.sl (DS (o.row.xs.drop (o.row.xs.length-n)))) u:=by
 have T6:=hr.rows id o ho;have hm:∀x v,AF F w os x v->AF F1 w os x v:=λx v h=>A8 W8 (λ_ _=>rfl) os os (B2 os) x v h;simp only[AF]at e2⊢;obtain⟨o',UZ,_,_,e2⟩:=e2;rw[ho]at UZ;cases UZ;obtain⟨hn,hv⟩:=e2 hg;have hlen:(DS (o.row.xs.drop (o.row.xs.length-n))).length=n:=by simp[CO];omega
 rcases hv with ⟨hb,Vf,ad,rfl⟩|⟨b,hb,rfl⟩
 ·have:=(T6.nil hb Vf).1;rw[this]at hn;simp only[S3,Tr]at hn;subst hn;exact⟨ad,0,by simp[CO],by simp[CO],by simp[CO]⟩
 ·obtain⟨_,cur,UK,Uc,hle,_,UJ⟩:=T6.some b hb;have ax:∀x∈DS (o.row.xs.drop (o.row.xs.length-n)),x.length=o.row.size:=λx hx=>by
   rw[CO]at hx;obtain⟨y,hy,rfl⟩:=R9.1 hx;rw[DD,SF];exact (T6.lens y (Se hy)).1
  refine⟨_,o.cap-(o.row.xs.length-n),by rw[hlen],by rw[hlen];omega,λ_=>⟨b,(o.row.xs.length-n)*o.row.size,o.row.size,rfl,hl b (.inl hb),ax,?_⟩⟩;refine Di ax λi x hx=>DQ λj c hc=>?_;rw[CO,Rs,Rv]at hx;obtain⟨x0,Xu,rfl⟩:=hx;rw[DD,Rs,Rv]at hc;obtain⟨c0,VA,rfl⟩:=hc;rw[SX]at Xu
  ·have jd:=Vy x0 (Ro Xu) c0 (Ro VA);have hk:=(T6.lens x0 (Ro Xu)).2 c0 (Ro VA);by_cases hd :∃el sz ys,c0=.dv el sz ys
   ·obtain⟨el,sz,ys,rfl⟩:=hd;obtain⟨-,D,d1,_,d3⟩:=T6.deep;obtain⟨u,f1,f2⟩:=d3 b hb cur _ _ UK _ x0 j el sz ys Xu VA;obtain⟨g1,g2⟩:=IC (F:=F1) (λc hc=>hl c (.inr (d1 _ _ _ hc))) _ u f2;exact⟨u,by rw[TM w b _ cur _ _ UK,<- SQ];exact f1,g2,g1⟩
   ·have hs:simple c0=true:=by cases c0<;>simp_all [BQ]
    rw[EM hs];obtain⟨u,f1,f2⟩:=UJ _ x0 Xu j c0 VA;refine⟨u,?_,by cases c0<;>simp_all [AV.kept],CP hs [] (hm _ _ f2)⟩;rw[TM w b _ cur _ _ UK,<- SQ];exact f1
theorem Mx (hr:Rel F os s a w){args:List AV}{vs:List Value}(hl:Ad F w os args vs)(Wl :∀id g n,Gt args id g n->∀row,s.st[id]?=some row->Au row.xs):
  Ad (Ho F os args) w os (args.map (C0 s.st)) vs:=by
 have W8:∀b,F b->Ho F os args b:=λ_ h=>.inl h;have hm:∀x v,AF F w os x v->AF (Ho F os args) w os x v:=λx v h=>A8 W8 (λ_ _=>rfl) os os (B2 os) x v h;have h0:∀y u,(∀id g n,y=AV.own id g n->Gt args id g n)->AF F w os y u->AF (Ho F os args) w os (Hl s.st y) u:=λy u Uy e2=>by
  cases y with
  | own id g n=>
   simp only[Hl];split
   ·rename_i row T4;split
    ·rename_i hg;obtain⟨o,ho,rfl⟩:=hr.row T4;exact IH hr W8 ho (λb hb=>.inr ⟨id,g,n,o,Uy id g n rfl,ho,hb⟩) (Wl id g n (Uy id g n rfl) o.row T4) e2 hg
    ·simp[AF]
   ·simp[AF]
  | _=>exact hm _ _ e2
 refine BP (by simp[Ab hl]) λi x u hx hu=>?_;simp only[Rs,Rv]at hx;obtain⟨y,hy,rfl⟩:=hx;obtain⟨u',e1,e2⟩:=Al hl i y hy;rw[hu]at e1;cases e1;have fS:=Ro hy;cases y with
 | agg cs=>
  simp only[C0,AF]at e2⊢;obtain⟨us,e,WN⟩:=e2;refine⟨us,e,BP (by simp[Ab WN]) λj x u hx hu=>?_⟩;simp only[Rs,Rv]at hx;obtain⟨y,hy,rfl⟩:=hx;obtain⟨u',e1,e2⟩:=Al WN j y hy;rw[hu]at e1;cases e1;exact h0 y u (λid g n e=>.inr ⟨cs,fS,e▸Ro hy⟩) e2
 | own id g n=>exact h0 _ u (λUz g' n' e=>.inl (e▸fS)) e2
 | _=>exact hm _ _ e2
theorem LW {P:Program}{s:St}{f:FuncId}{args:List AV}{R:AV->List Row->Prop}{k:Nat}(h:AY P f (args.map (C0 s.st)) [] R)(hf:(args.map (C0 s.st)).all flat=true)
  (Wl :∀id g n,Gt args id g n->∀row,s.st[id]?=some row->Au row.xs) {F:Nat->Prop} {os:List Own} {a:Act} {w:World} {vs:List Value} (hr:Rel F os s a w) (hl:Ad F w os args vs) :
  Calls P f vs.toArray w λe w'=>∃u r st' F' UU,e=.returned u/\R r st'/\Rel F os s a w'/\CA F' UU st' w'/\AF F' w' UU r u/\(∀b,F b->F' b)/\Ext F os w F os w' k/\
   (∀(i:Nat) (o:Own),os[i]?=some o->∀b,o.owns b->∀o1:Own,o1∈UU->¬ o1.owns b)/\∀b,b<w.heap.size->¬ F b->(∀o:Own,o∈os->¬ o.owns b)->∀o1:Own,o1∈UU->¬ o1.owns b:=by
 have W8:∀b,F b->Ho F os args b:=λ_ h=>.inl h;have UM:∀(i:Nat) (o:Own) b,os[i]?=some o->o.owns b->b<w.heap.size:=λi o b hi hb=>(hr.rows i o hi).lt hb;have YD:∀b,Ho F os args b->b<w.heap.size:=λb hb=>by
  rcases hb with hb|⟨id,g,n,o,_,ho,W3⟩
  ·exact hr.CL b hb
  ·exact UM id o b ho W3
 have Vg:=Mx hr hl Wl;refine (h (Ho F os args) [] w vs (CA.nil YD) (Fk hf [] Vg)).mono ?_;rintro e w' ⟨u,r,st',F',UU,rfl,hR,hs,hru,he⟩;have T4:∀(i:Nat) (o:Own),os[i]?=some o->∀b,o.owns b->w'.heap[b]?=w.heap[b]?/\∀o1:Own,o1∈UU->¬ o1.owns b:=λi o ho b hb=>by
  by_cases h1:Ho F os args b
  ·refine⟨he.DC b h1,λo1 ay e=>?_⟩;obtain⟨j,hj⟩:=R5.1 ay;exact (hs.rows j o1 hj).nF e (he.FT b h1)
  ·obtain⟨f1,_,f3⟩:=he.other b (UM i o b ho hb) h1 (by simp);exact⟨f1,f3⟩
 have T8:∀x v,AF F w os x v->AF F w' os x v:=λx v h=>A8 (λ_ h=>h) (λb hb=>he.DC b (W8 b hb)) os os (B2 os) x v h;have VS:Rel F os s a w':=⟨hr.st,λt=>T8 _ _ (hr.env t),hr.size,λi o ho=>by
   have T6:=hr.rows i o ho;refine⟨T6.pos,T6.lens,T6.none,λb hb=>?_,λb hb=>⟨(T6.mo b hb).1,Si (T6.mo b hb).2.1 he.size,(T6.mo b hb).2.2⟩,T6.deep.keep rfl (λ_ h=>h) rfl (λb hb=>(T4 i o ho b hb).1) (λi x j e s ys hx hc=>⟨x,hx,hc⟩)⟩;obtain⟨e1,cur,e2,e3,e4,e5,e6⟩:=T6.some b hb;exact⟨e1,cur,by rw[(T4 i o ho b (.inl hb)).1];exact e2,e3,e4,e5,λi' x hx j c hc=>by obtain⟨u,f1,f2⟩:=e6 i' x hx j c hc;exact⟨u,f1,T8 _ _ f2⟩⟩,
  hr.inj,λb hb=>Si (hr.CL b hb) he.size,hr.defers⟩
 have VL:∀b,b<w.heap.size->¬ F b->(∀o:Own,o∈os->¬ o.owns b)->w'.heap[b]?=w.heap[b]?/\∀o1:Own,o1∈UU->¬ o1.owns b:=λb hb e1 e2=>by
  have Zh:¬ Ho F os args b:=λh=>h.elim e1 (λ⟨id,g,n,o,_,ho,W3⟩=>e2 o (Ro ho) W3);obtain⟨f1,_,f3⟩:=he.other b hb Zh (by simp);exact⟨f1,f3⟩
 exact⟨u,r,st',F',UU,rfl,hR,VS,hs,hru,λb hb=>he.FT b (W8 b hb),
  ⟨he.sys,he.tape,he.output,he.size,λ_ h=>h,λb hb=>he.DC b (W8 b hb),λb hb e1 e2=>⟨(VL b hb e1 e2).1,e1,e2⟩,λi o _ ho=>⟨o,ho,R3 _,rfl,λ_=>⟨rfl,rfl,rfl⟩⟩⟩,
  λi o ho b hb=>(T4 i o ho b hb).2,λb hb e1 e2=>(VL b hb e1 e2).2⟩
theorem H4 {f:FuncId}{args:List AV}{d:Option Tmp}{K:St->Prop}{R:AV->List Row->Prop}(h:AY P f (args.map (C0 s.st)) [] R)(hf:(args.map (C0 s.st)).all flat=true)
  (Wl :∀id g n,Gt args id g n->∀row,s.st[id]?=some row->Au row.xs)
  (hK :∀r st',R r st'->(MH r=true/\∀row∈st',∀x∈row.xs,∀c∈x,Ez c=true)/\(∀row∈st',Au row.xs)/\K ({ s with st:=s.st++st' }.put d (shift s.st.length r))):callThen P k s f args d K:=by
 intro F os a w vs hr hl;refine (LW (k:=k) h hf Wl hr hl).mono ?_;rintro e w' ⟨u,r,st',F',UU,rfl,hR,VS,hs,hru,aR,he,Uq,VL⟩;obtain⟨⟨cz,Zi⟩,hp,hk⟩:=hK r st' hR;refine⟨u,_,s.st++st',F,os++UU,rfl,hk,VS.join hs aR hp (.inr Zi) Uq,?_,?_⟩
 ·rw[hr.len];exact HO (Ky cz hru)
 ·refine⟨he.sys,he.tape,he.output,he.size,λ_ h=>h,he.DC,λb hb e1 e2=>?_,λi o hi ho=>Bz.append os UU i o ho⟩;obtain⟨f1,_,_⟩:=he.other b hb e1 e2;exact⟨f1,e1,λo ho=>by rcases SM.1 ho with h|h;exact e2 o h;exact VL b hb e1 e2 o h⟩
end Go.Abs
