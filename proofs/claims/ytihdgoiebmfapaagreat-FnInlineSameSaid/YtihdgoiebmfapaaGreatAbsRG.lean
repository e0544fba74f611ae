import Derived.Test.YtihdgoiebmfapaaGreatAbsRF
set_option linter.all false
namespace Go.Abs
open Go
section
variable {P : Program} {F : Nat -> Prop} {os : List Own} {s : St} {a : Act} {w : World} {k : Nat}
theorem Rel.Qw (hr:Rel F os s a w){w':World}(hs:w.heap.size<=w'.heap.size)(hw :∀b,F b∨(∃o:Own,o∈os/\o.owns b)->w'.heap[b]?=w.heap[b]?):Rel F os s a w':=by
 have uG:∀x v,Ab F w os x v->Ab F w' os x v:=λx v h=>DW (λ_ h=>h) (λb hb=>hw b (.inl hb)) os os (λi o ho=>⟨o,ho,pL _,rfl,λ_=>⟨rfl,rfl,rfl⟩⟩) x v h;refine⟨hr.st,λi=>uG _ _ (hr.env i),hr.size,λi o ho=>?_,hr.inj,λg hg=>qK (hr.Fu g hg) hs,hr.defers⟩;have tz:=hr.rows i o ho;have hwo:∀g,o.owns g->w'.heap[g]?=w.heap[g]?:=λg hg=>hw g (.inr ⟨o,ov ho,hg⟩);refine⟨tz.pos,tz.lens,tz.none,λg hg=>?_,λg hg=>⟨(tz.mo g hg).1,qK (tz.mo g hg).2.1 hs,(tz.mo g hg).2.2⟩,
  tz.deep.keep rfl (λ_ h=>h) rfl hwo (λi x j e s ys hx hc=>⟨x,hx,hc⟩)⟩
 obtain⟨h1,cur,uO,h2,h3,h4,h5⟩:=tz.some g hg;refine⟨h1,cur,by rw[hwo g (.inl hg)];exact uO,h2,h3,h4,λi' x hx j c hc=>?_⟩;obtain⟨u,hu1,xB⟩:=h5 i' x hx j c hc;exact⟨u,hu1,uG _ _ xB⟩
theorem Ext.Qw {F':Nat->Prop}{os':List Own}{w1 w':World}(he:Ext F os w F' os' w1 k)(h1:w'.os=w1.os)(h2:w'.tape=w1.tape)(h3:w'.output=w1.output)(hs:w1.heap.size<=w'.heap.size)
  (hw :∀b,b<w.heap.size->w'.heap[b]?=w1.heap[b]?) (hF :∀b,F b->b<w.heap.size):Ext F os w F' os' w' k:=
 ⟨h1.trans he.sys,h2.trans he.tape,h3.trans he.output,rl he.size hs,he.Ny,λb hb=>(hw b (hF b hb)).trans (he.Ix b hb),
  λb hb h4 h5=>let ⟨e1,e2,e3⟩:=he.other b hb h4 h5;⟨(hw b hb).trans e1,e2,e3⟩,he.Vn⟩
def early (k:Nat):AV->Prop
 |.FZ=>True
 |.ptr id _ _ _=>id<k
 |.fn _ [.ptr id _ _ _]=>id<k
 |_=>False
theorem cb {F':Nat->Prop}{os':List Own}{w':World}(he:Ext F os w F' os' w' k){id g i off:Nat}{v:Value}(hx:id<k)(h:Ab F w os (.ptr id g i off) v):Ab F' w' os' (.ptr id g i off) v:=by
 simp only[Ab]at h⊢;obtain⟨o,ho,hg,hp,h1⟩:=h;obtain⟨o',uw,l1,s1,p1⟩:=he.Vn id o hx ho;refine⟨o',uw,rl hg l1,hp,λe=>?_⟩;have e1:o.row.gen=g:=by omega
 obtain⟨b1,b2,b3⟩:=p1 (by omega);obtain⟨c1,c2,b,c3,c4⟩:=h1 e1;refine⟨by omega,by omega,b,by rw[b1];exact c3,?_⟩;rw[c4,s1]
theorem early.rep {F':Nat->Prop}{os':List Own}{w':World}(he:Ext F os w F' os' w' k){x:AV}{v:Value}(hx:early k x)(h:Ab F w os x v):Ab F' w' os' x v:=by
 unfold early at hx;split at hx
 .simp[Ab]
 .exact cb he hx h
 .simp only[Ab,Br]at h⊢;obtain⟨us,rfl,u,xR,rfl,hu,rfl⟩:=h;have:=cb he hx (by simpa only[Ab] using hu);exact⟨_,rfl,u,[],rfl,by simpa only[Ab] using this,rfl⟩
 .exact hx.elim
def dh (P:Program)(gf:FuncId)(lb:Array Value)(len:Nat)(Rd:World->Prop)(El:World->Nat->Value->Prop):Prop:=
 ∀(l:Nat) (J:Nat->World->Prop) (W:World),(∀i W,J i W->Rd W)->
  (∀(i:Nat) W1 v,i<len->J (i+1) W1->El W1 i v->YieldAt Fence.wide 0 P l #[.int .i64 i,v] W1 λe W'=>e=.returned (.bool true)/\J i W')->J len W->
  CallsIn Fence.wide 0 P gf (#[.func (.yield l) #[] #[]]++lb) W λe W'=>(∃v,e=.returned v)/\J 0 W'
theorem gH {g:Operand}{p1 p2:Tmp}{assign body:Code}{gf:FuncId}{lb:Array Value}{len:Nat}{Rd:World->Prop}{El:World->Nat->Value->Prop}{n:Nat}{e0:Nat->AV}{S:Nat->List Row}{xs:Nat->AV}{Qf:Exit->Act->World->Prop}
  (hg:a.eval g=.func (.func gf) #[] lb) (eg :∀args w,(callFunc gf args).run P w=.ok (.enter gf args) w)
  (hr:Rel F os ⟨n,e0,S len⟩ a w) (zo:dh P gf lb len Rd El) (hrd :∀i F' os' W,Rel F' os' ⟨n,e0,S i⟩ a W->Rd W) (hus :∀i F' os' W v,i<len->Rel F' os' ⟨n,e0,S (i+1)⟩ a W->El W i v->Ab F' W os' (xs i) v)
  (he0 :∀t,early k (e0 t)) (hp1:p1<n) (hp2:p2<n)
  (zp :∀i l,i<len->Oh P l k assign (LQ (λs1=>Oh P l k body (λe s2=>e=.normal/\s2.st=S i) s1) (λ_ _=>False)) ⟨n,DQ (DQ e0 p1 (i64 (i:Int))) p2 (xs i),S (i+1)⟩)
  (zC :∀(D:Nat) F' os' W,w.heap.size<=D->Rel F' os' ⟨n,e0,S 0⟩ a W->Ext F os w F' os' W k->W.heap[D]?=some (.deferred (some []))->¬ F' D->(∀o:Own,o∈os'->¬ o.owns D)->
   Qf .normal { a with defers:={ target:=.collected D,args:=#[] }::a.defers } W) :
  (Code.rangeFunc g #[p1,p2] assign body).wp P Qf a w:=by
 refine (wpIn_wide (n:=0)).1 (wpIn_rangeFunc ?_);intro fn _;obtain⟨rec,vl⟩ :∃rec:LoopState->Option Code->Loop,rec=λst pe=>{ state:=st,pending:=pe,fn,tmps:=a.tmps,params:=#[p1,p2],assign,body,defers:=w.heap.size }:=⟨_,rfl⟩
 obtain⟨W1,hW1⟩ :∃W1,(w.alloc (.deferred (some []))).alloc (.loop (rec .ready none))=W1:=⟨_,rfl⟩
 have hL1:W1.heap[w.heap.size+1]?=some (.loop (rec .ready none)):=by
  rw[<- hW1];have:=World.alloc_heap_new (w.alloc (.deferred (some []))) (.loop (rec .ready none));rwa [World.size_alloc]at this
 have hK1:W1.heap[w.heap.size]?=some (.deferred (some [])):=by
  rw[<- hW1];exact (rz _ _ (by simp)).trans (World.alloc_heap_new w _)
 have hO1:∀b,b<w.heap.size->W1.heap[b]?=w.heap[b]?:=λb hb=>by
  rw[<- hW1];exact (rz _ _ (by simp;omega)).trans (rz w _ hb)
 have hS1:w.heap.size<=W1.heap.size:=by rw[<- hW1];simp;omega
 have uU:∀b,F b∨(∃o:Own,o∈os/\o.owns b)->b<w.heap.size:=λb hb=>by
  rcases hb with hb|⟨o,ho,hb⟩
  .exact hr.Fu b hb
  .obtain⟨i,hi⟩:=pY.1 ho;exact (hr.rows i o hi).lt hb
 let J:LoopState->Nat->World->Prop:=λst i W=>∃F' os',Rel F' os' ⟨n,e0,S i⟩ a W/\Ext F os w F' os' W k/\W.heap[w.heap.size+1]?=some (.loop (rec st none))/\W.heap[w.heap.size]?=some (.deferred (some []))/\
  (∀d,d=w.heap.size∨d=w.heap.size+1->¬ F' d/\∀o:Own,o∈os'->¬ o.owns d)
 have hJ0:J .ready len W1:=by
  refine⟨F,os,hr.Qw hS1 (λb hb=>hO1 b (uU b hb)),(Ext.refl F os w k).Qw (by rw[<- hW1];rfl) (by rw[<- hW1];rfl) (by rw[<- hW1];rfl) hS1 hO1 hr.Fu,hL1,hK1,λd hd=>⟨λh=>?_,λo ho h=>?_⟩⟩
  .have:=hr.Fu d h;omega
  .have:=uU d (.inr ⟨o,ho,h⟩);omega
 refine⟨w.heap.size+1,[{ target:=.collected w.heap.size,args:=#[] }],W1,{ target:=.fn (.func gf) lb,args:=#[.func (.yield (w.heap.size+1)) #[] #[]] },W1,gf,
  #[.func (.yield (w.heap.size+1)) #[] #[]]++lb,W1,?_,?_,λ_ _=>trivial,?_,λh=>(by cases h),?_⟩
 .rw[<- hW1,vl];exact run_enterLoop_outer _ _ _ _ _
 .simp only[resolve,hg];simp[go_sem]
 .simp[invoke,go_sem,eg]
 refine (zo (w.heap.size+1) (J .ready) W1 (λi W ⟨F',os',hR,_⟩=>hrd i F' os' W hR) ?_ hJ0).mono ?_
 .rintro i W uv hi ⟨F',os',hR,hE,hl,hD,hn⟩ hel;have hltW:w.heap.size+1<W.heap.size:=(px.1 hl).1;have hy:=run_yield (P:=P) (args:=#[.int .i64 i,uv]) hl (by rw[vl];rfl);rw[vl]at hy;refine⟨fn,_,assign,body,hy,roundIn_of_wpIn oz ?_⟩;have hps:∀{t:Tmp},t<n->t<a.tmps.size:=λh=>by rw[hR.size];exact h
  have htm:∀t,((a.tmps.setIfInBounds p1 (.int .i64 i)).setIfInBounds p2 (uv)).getD t undef=if t=p2 then uv else if t=p1 then .int .i64 i else a.tmps.getD t undef:=λt=>by
   have h1:=hps hp1;have h2:=hps hp2;simp only[qm,Array.getElem?_setIfInBounds,Array.size_setIfInBounds];by_cases e2:t=p2
   .subst e2;simp[h2]
   .by_cases e1:t=p1
    .subst e1;simp[h1,e2,qv e2]
    .simp[e1,e2,qv e1,qv e2]
  have hRr:Rel F' os' ⟨n,DQ (DQ e0 p1 (i64 (i:Int))) p2 (xs i),S (i+1)⟩ { tmps:=((#[p1,p2]:Array Tmp).zip #[Value.int .i64 i,uv]).foldl (λt (p,v)=>t.setIfInBounds p v) a.tmps,defers:=[] } W:=by
   refine⟨hR.st,λt=>?_,by simpa using hR.size,hR.rows,hR.inj,hR.Fu,rfl⟩;have hz:((#[p1,p2]:Array Tmp).zip #[Value.int .i64 i,uv]).foldl (λt (p,v)=>t.setIfInBounds p v) a.tmps=(a.tmps.setIfInBounds p1 (.int .i64 i)).setIfInBounds p2 (uv):=by simp
   show Ab F' W os' (DQ (DQ e0 p1 (i64 (i:Int))) p2 (xs i) t) ((((#[p1,p2]:Array Tmp).zip #[Value.int .i64 i,uv]).foldl (λt (p,v)=>t.setIfInBounds p v) a.tmps).getD t undef);rw[hz,htm];unfold DQ;by_cases e2:t=p2
   .rw[pI e2,pI e2];exact hus i F' os' W uv hi hR hel
   .rw[pJ e2,pJ e2];by_cases e1:t=p1
    .rw[pI e1,pI e1];simp[Ab]
    .rw[pJ e1,pJ e1];exact hR.env t
  have hA:=zp i (w.heap.size+1) hi (λs h=>h.elim) F' os' _ W hRr;refine sf hA ?_;rintro e a2 W2 ⟨s2,F2,os2,hQ2,hR2,hE2⟩;cases e with
  |normal=>
   have hl2:W2.heap[w.heap.size+1]?=some (.loop (rec .ready none)):=(hE2.other _ hltW (hn _ (.inr rfl)).1 (hn _ (.inr rfl)).2).1.trans hl;have hD2:W2.heap[w.heap.size]?=some (.deferred (some [])):=(hE2.other _ (by omega) (hn _ (.inl rfl)).1 (hn _ (.inl rfl)).2).1.trans hD;have hn2:∀d,d=w.heap.size∨d=w.heap.size+1->¬ F2 d/\∀o:Own,o∈os2->¬ o.owns d:=λd hd=>(hE2.other d (by omega) (hn d hd).1 (hn d hd).2).2;have hlt2:w.heap.size+1<W2.heap.size:=qK hltW hE2.size;refine⟨_,run_beginRound hl2 (by rw[vl]),?_⟩;obtain⟨W3,hW3⟩ :∃W3,W2.putObj (w.heap.size+1) (.loop { rec .ready none with state:=.busy })=W3:=⟨_,rfl⟩
   rw[hW3];have hoth3:∀b,b≠w.heap.size+1->W3.heap[b]?=W2.heap[b]?:=λb hb=>by rw[<- hW3];exact World.putObj_heap_other hb
   have hs3:W2.heap.size<=W3.heap.size:=by rw[<- hW3];simp
   have hl3:W3.heap[w.heap.size+1]?=some (.loop (rec .busy none)):=by rw[<- hW3];rw[World.putObj_heap_same hlt2,vl]
   have hR3:Rel F2 os2 s2 a2 W3:=hR2.Qw hs3 λb hb=>hoth3 b λe=>by
    subst e;rcases hb with hb|⟨o,ho,hb⟩
    .exact (hn2 _ (.inr rfl)).1 hb
    .exact (hn2 _ (.inr rfl)).2 o ho hb
   have hE3:Ext F os w F2 os2 W3 k:=(hE.trans hE2).Qw (by rw[<- hW3];rfl) (by rw[<- hW3];rfl) (by rw[<- hW3];rfl) hs3 (λb hb=>hoth3 b (by omega)) hr.Fu;refine sf (hQ2 (λs h=>by cases h.1) F2 os2 a2 W3 hR3) ?_;rintro e a4 W4 ⟨s4,F4,os4,⟨rfl,hst4⟩,hR4,hE4⟩;have hlt3:w.heap.size+1<W3.heap.size:=qK hlt2 hs3;have hl4:W4.heap[w.heap.size+1]?=some (.loop (rec .busy none)):=(hE4.other _ hlt3 (hn2 _ (.inr rfl)).1 (hn2 _ (.inr rfl)).2).1.trans hl3;have hD4:W4.heap[w.heap.size]?=some (.deferred (some [])):=(hE4.other _ (by omega) (hn2 _ (.inl rfl)).1 (hn2 _ (.inl rfl)).2).1.trans ((hoth3 _ (by omega)).trans hD2);have hn4:∀d,d=w.heap.size∨d=w.heap.size+1->¬ F4 d/\∀o:Own,o∈os4->¬ o.owns d:=λd hd=>(hE4.other d (by omega) (hn2 d hd).1 (hn2 d hd).2).2;have hlt4:w.heap.size+1<W4.heap.size:=qK hlt3 hE4.size;have hend:=run_endRound (P:=P) (none:Option Code) hl4;refine⟨_,_,hend,rfl,F4,os4,?_,?_,?_,?_,hn4⟩
   ·
    have hR5:Rel F4 os4 ⟨n,e0,S i⟩ a W4:=by
     refine⟨by rw[hR4.st,hst4],λt=>?_,hR.size,hR4.rows,hR4.inj,hR4.Fu,hR.defers⟩;have h1:Ab F2 W2 os2 (e0 t) (a.tmps.getD t undef):=(he0 t).rep hE2 (hR.env t);have h2:Ab F2 W3 os2 (e0 t) (a.tmps.getD t undef):=DW (λ_ h=>h) (λb hb=>hoth3 b (λe=>by subst e;exact (hn2 _ (.inr rfl)).1 hb)) os2 os2 (λi o ho=>⟨o,ho,pL _,rfl,λ_=>⟨rfl,rfl,rfl⟩⟩) _ _ h1;exact (he0 t).rep hE4 h2
    refine hR5.Qw (by simp) λb hb=>World.putObj_heap_other λe=>?_;rw[e]at hb;rcases hb with hb|⟨o,ho,hb⟩
    .exact (hn4 _ (.inr rfl)).1 hb
    .exact (hn4 _ (.inr rfl)).2 o ho hb
   .exact (hE3.trans hE4).Qw rfl rfl rfl (by simp) (λb hb=>World.putObj_heap_other (by omega)) hr.Fu
   .rw[World.putObj_heap_same hlt4,vl];rfl
   .exact (World.putObj_heap_other (by omega)).trans hD4
  |ret=>exact hQ2.elim
  |exit id=>exact hQ2.elim
  |goto t=>exact hQ2.elim
  |panic ch=>exact hQ2.elim
  |outgrown=>exact hQ2.elim
 .rintro e W2 ⟨⟨v,rfl⟩,F',os',hR,hE,hl,hD,hn⟩;have hend:=run_endLoop (P:=P) hl (by rw[vl];simp);have hpe:(rec .ready none).pending=none:=by rw[vl]
  rw[hpe]at hend;refine⟨none,_,hend,?_⟩;have uq:∀b,F' b∨(∃o:Own,o∈os'/\o.owns b)->b≠w.heap.size+1:=λb hb e=>by
   rw[e]at hb;rcases hb with hb|⟨o,ho,hb⟩
   .exact (hn _ (.inr rfl)).1 hb
   .exact (hn _ (.inr rfl)).2 o ho hb
  exact zC w.heap.size F' os' _ (pL _) (hR.Qw (by simp) λb hb=>World.putObj_heap_other (uq b hb)) (hE.Qw rfl rfl rfl (by simp) (λb hb=>World.putObj_heap_other (by omega)) hr.Fu)
   ((World.putObj_heap_other (by omega)).trans hD) (hn _ (.inl rfl)).1 (hn _ (.inl rfl)).2
end
end Go.Abs
