import Derived.Test.YtpahalfiiahddaaGreatAbsM

namespace Sh
open Go
def w (n:Int):Int:=IntKind.i64.wrap n
def wk (k:IntKind) (n:Int):Int:=k.wrap n
def get {α:Type} (l:List α) (j:Int):Option α:=if 0≤j then l[j.toNat]? else none
def put {α:Type} (l:List α) (j:Int) (x:α):List α:=l.set j.toNat x
def len {α:Type} (l:List α):Int:=l.length
def mk {α:Type} (x:α) (j:Int) (bytes:Nat):Option (List α):=if 0≤j∧j * bytes≤281474976710656∧j≤9223372036854775807 then some (List.replicate j.toNat x) else none
def app {α:Type} (l m:List α) (bytes:Nat):Option (List α):=if (l.length+m.length) * bytes≤140737488355328∧l.length+m.length≤9223372036854775807 then some (l ++ m) else none
def hi {α:Type} (l:List α) (j:Int):Option (List α):=if 0≤j∧j≤l.length then some (l.take j.toNat) else none
def lo {α:Type} (l:List α) (j:Int):Option (List α):=if 0≤j∧j≤l.length then some (l.drop j.toNat) else none
def sl {α:Type} (l:List α) (i j:Int):Option (List α):=if 0≤i∧i≤j∧j≤l.length then some ((l.take j.toNat).drop i.toNat) else none
def quo (a b:Int):Option Int:=if b=0 then none else some (w (a.tdiv b))
def rem (a b:Int):Option Int:=if b=0 then none else some (a.tmod b)
def xor (a b:Int):Int:=IntKind.i64.wrap (BitVec.ofInt 64 a ^^^ BitVec.ofInt 64 b).toNat
theorem get_some {α:Type} {l:List α} {j:Int} {c:α} (h:get l j=some c):0≤j∧l[j.toNat]?=some c∧j < l.length:=by
 unfold get at h
 split at h
 ·rename_i h0
  have:=(List.getElem?_eq_some_iff.1 h).1
  exact⟨h0,h,by omega⟩
 ·cases h
theorem bind_some {α β:Type} {x:Option α} {f:α→Option β} {r:β} (h:x.bind f=some r) :∃v,x=some v∧f v=some r:=by
 cases x with
 | none=>cases h
 | some v=>exact⟨v,rfl,h⟩
theorem Az {α:Type} {l:List α} {j:Int} {x:α}:(put l j x).length=l.length:=by simp[put]
theorem AA {α:Type} {a b:α} (h:some a=some b):a=b:=Option.some.inj h
theorem cD {α:Type} {b:Bool} {x y r:α} (hb:b=true) (h:(if b=true then x else y)=r):x=r:=by rw[if_pos hb] at h;exact h
theorem av {α:Type} {b:Bool} {x y r:α} (hb:b=false) (h:(if b=true then x else y)=r):y=r:=by rw[if_neg (by simp[hb])] at h;exact h
def cont {ρ σ β:Type} (o:Option (ρ ⊕ σ)) (g:ρ→β) (f:σ→Option β):Option β:=
 match o with
 | none=>none
 | some (.inl r)=>some (g r)
 | some (.inr v)=>f v
theorem A8 {ρ σ β:Type} {o:Option (ρ ⊕ σ)} {g:ρ→β} {f:σ→Option β} {b:β} (h:cont o g f=some b) :
  ∃v,o=some v∧(match v with | .inl r=>some (g r) | .inr v=>f v)=some b:=by
 unfold cont at h
 split at h
 ·cases h
 ·exact⟨_,rfl,h⟩
 ·exact⟨_,rfl,h⟩
@[simp] theorem ee {ρ σ β:Type} (r:ρ) (g:ρ→β) (f:σ→Option β):cont (some (.inl r)) g f=some (g r):=rfl
@[simp] theorem Kl {ρ σ β:Type} (v:σ) (g:ρ→β) (f:σ→Option β):cont (some (.inr v)) g f=f v:=rfl
theorem Ap {α:Type} {b:Bool} {x y:Option α} {r:α} (h:(if b=true then x else y)=some r):(b=true∧x=some r)∨(b=false∧y=some r):=by
 cases b
 ·exact .inr ⟨rfl,h⟩
 ·exact .inl ⟨rfl,h⟩
end Sh
namespace Go.Abs
open Go
def AL:List (Nat×AV)→Nat→AV
 | [],_=>.Eu
 | (t,v) :: r,k=>if k=t then v else AL r k
def le (a b:AV):Prop:=∀F w os u,Ae F w os a u→Ae F w os b u
theorem le.rfl {a:AV}:le a a:=fun _ _ _ _ h=>h
theorem le.of {a b:AV} (h:a=b):le a b:=h ▸ le.rfl
theorem le.Eu {a:AV}:le a .Eu:=fun _ _ _ _ _=>by simp[Ae]
theorem le.zc:le .zc (.sl []):=fun _ _ _ _ h=>by
 simp only[Ae] at h ⊢
 obtain⟨ad,e⟩:=h
 exact⟨ad,0,by simpa using e,by simp,by simp⟩
def Wl:List AV→List AV→Prop
 | [],[]=>True
 | a :: r,b :: r'=>le a b∧Wl r r'
 | _,_=>False
theorem Wl.rep {F:Nat→Prop} {w:World} {os:List Own} :∀{xs ys:List AV} {us:List Value},Wl xs ys→BG F w os xs us→BG F w os ys us
 | [],[],_,_,h=>h
 | a :: r,b :: r',us,h,h'=>by
  simp only[BG] at h' ⊢
  obtain⟨u,us',e,h1,h2⟩:=h'
  exact⟨u,us',e,h.1 _ _ _ _ h1,Wl.rep h.2 h2⟩
 | [],_ :: _,_,h,_=>h.elim
 | _ :: _,[],_,h,_=>h.elim
theorem le.agg {xs ys:List AV} (h:Wl xs ys):le (.agg xs) (.agg ys):=fun F w os u hu=>by
 simp only[Ae] at hu ⊢
 obtain⟨us,e,hl⟩:=hu
 exact⟨us,e,h.rep hl⟩
def ME (e:Nat→AV):List (Nat×AV)→Prop
 | []=>True
 | (t,v) :: r=>le (e t) v∧ME e r
theorem le.len {id g m m':Nat} (h:m=m'):le (.own id g m) (.own id g m'):=h ▸ le.rfl
theorem ME.le {e:Nat→AV} :∀{L:List (Nat×AV)},ME e L→∀t,le (e t) (AL L t)
 | [],_,_=>le.Eu
 | (t',v) :: r,h,t=>by
  simp only[AL]
  split
  ·rename_i ht;subst ht;exact h.1
  ·exact ME.le h.2 t
variable {k n : Nat} {e : Nat → AV} {st st' : List Row} {L : List (Nat × AV)}
theorem Wk.eU {e':Nat→AV} (h :∀t,le (e t) (e' t)):Wk k ⟨n,e,st⟩ ⟨n,e',st⟩:=fun F os _ w hr=>
 ⟨F,os,⟨hr.st,fun t=>h t _ _ _ _ (hr.env t),hr.size,hr.rows,hr.inj,hr.EO,hr.defers⟩,Ext.refl _ _ _ _⟩
theorem AS (h:ME e L):Wk k ⟨n,e,st⟩ ⟨n,AL L,st⟩:=Wk.eU h.le
theorem le.DN {α:Type} {id g m:Nat} {l:List α} {enc:α→List AV} (h:m=l.length):le (DN id g (l.map enc) (.own id g m)) (.sl (l.map enc)):=by
 subst h
 refine le.of ?_
 rw[bj,← List.length_map (f:=enc) (as:=l),Nat.sub_self,List.drop_zero]
theorem Yw {α:Type} {id g m:Nat} {l:List α} {enc:α→List AV} (h:m=l.length):JA id g (l.map enc) (.own id g m)=.sl (l.map enc):=by
 subst h
 rw[aM,← List.length_map (f:=enc) (as:=l),Nat.sub_self,List.drop_zero]
theorem Wk.DN {id g size:Nat} {el:TypeId} {xs:List (List AV)} (hrow:st[id]?=some ⟨g,el,size,xs⟩) (hid:k≤id) (hp:Dj xs)
  (h:ME (fun t=>Abs.DN id g xs (e t)) L) (hst:st.set id ⟨g+1,el,size,[]⟩=st'):Wk k ⟨n,e,st⟩ ⟨n,AL L,st'⟩:=by
 subst hst
 exact (Wk.freeze (s:=⟨n,e,st⟩) hid hrow hp).trans (AS h)
def RF (sel:List Nat):List Row→Prop
 | []=>True
 | row :: r=>(∀x∈row.xs,∀c∈x,stays sel c=true)∧RF sel r
theorem RF.deep {sel:List Nat} {row:Row} {r:List Row} (h:CO row.xs) (hr:RF sel r):RF sel (row :: r):=⟨fun x hx c hc=>by
 have:=h x hx c hc
 cases c <;> simp[Eg,simple,stays] at this ⊢,hr⟩
theorem RF.pure {sel:List Nat} {row:Row} {r:List Row} (h:Dj row.xs) (hr:RF sel r):RF sel (row :: r):=.deep h.any hr
theorem RF.raw {sel:List Nat} {g size:Nat} {el:TypeId} {cs:List AV} {r:List Row} (h:cs.all (stays sel)=true) (hr:RF sel r):RF sel (⟨g,el,size,[cs]⟩ :: r):=
 ⟨fun x hx c hc=>by
  simp only[List.mem_singleton] at hx
  subst hx
  exact List.all_eq_true.1 h c hc,hr⟩
theorem RF.get {sel:List Nat} :∀{l:List Row},RF sel l→∀row∈l,∀x∈row.xs,∀c∈x,stays sel c=true
 | row :: r,h,row',hm=>by
  rcases List.mem_cons.1 hm with rfl | hm
  ·exact h.1
  ·exact RF.get h.2 row' hm
theorem FZ (sel:List Nat) (hk:sel.take k=List.range k) (hnd:sel.Nodup) (hlt:sel.all (· < st.length)=true) (hst:CG st sel=st') (hr:RF sel st') (h:ME (fun t=>Jm sel (e t)) L) :
  Wk k ⟨n,e,st⟩ ⟨n,AL L,st'⟩:=by
 subst hst
 refine (Wk.select (s:=⟨n,e,st⟩) sel (fun i hi=>?_) hnd (fun i hi=>by simpa using List.all_eq_true.1 hlt i hi) (fun i hi row hrow=>?_)).trans (AS h)
 ·have h1:(sel.take k)[i]?=some i:=by rw[hk];simp[hi]
  rw[List.getElem?_take] at h1
  simpa [hi] using h1
 ·exact hr.get row (List.mem_filterMap.2 ⟨i,hi,hrow⟩)
def Tp (st:List Row):AV→AV
 | .own id g n=>match st[id]? with
  | some row=>if row.gen=g then .own id 0 n else .Eu
  | none=>.Eu
 | .ptr id g i off=>match st[id]? with
  | some row=>if row.gen=g then .ptr id 0 i off else .Eu
  | none=>.Eu
 | .fn .. | .agg _ | .DE _=>.Eu
 | v=>v
def Tg (st:List Row) (x:AV):AV:=two (Tp st) x
def rg (st:List Row):AV→AV
 | .fn f cs=>.fn f (cs.map (Tg st))
 | .agg cs=>.agg (cs.map (Tg st))
 | .DE cs=>.DE (cs.map (Tg st))
 | v=>Tg st v
def Hk (st:List Row) (row:Row):Row:={ row with gen:=0,xs:=row.xs.map (·.map (Tg st)) }
def H8 (st:List Row) (o:Own):Own:={ o with row:=Hk st o.row }
theorem bW {F:Nat→Prop} {w:World} {os:List Own} (hst:os.map Own.row=st) {x:AV} {v:Value} (h:Ae F w os x v):Ae F w (os.map (H8 st)) (Tp st x) v:=by
 have hs :∀{id:Nat} {o:Own},os[id]?=some o→st[id]?=some o.row:=fun {id o} ho=>by rw[← hst,List.getElem?_map,ho];rfl
 cases x with
 | own id g n=>
  simp only[Ae] at h
  obtain⟨o,ho,hle,hsh,hv⟩:=h
  simp only[Tp,hs ho]
  split
  ·rename_i e
   obtain⟨h1,h2⟩:=hv e
   simp only[Ae]
   exact⟨H8 st o,by simp[ho],Nat.zero_le _,hsh,fun _=>⟨by simpa [H8,Hk] using h1,by simpa [H8,Hk] using h2⟩⟩
  ·simp[Ae]
 | ptr id g i off=>
  simp only[Ae] at h
  obtain⟨o,ho,hle,hsh,hv⟩:=h
  simp only[Tp,hs ho]
  split
  ·rename_i e
   obtain⟨h1,h2,h3⟩:=hv e
   simp only[Ae]
   exact⟨H8 st o,by simp[ho],Nat.zero_le _,hsh,fun _=>⟨by simpa [H8,Hk] using h1,h2,h3⟩⟩
  ·simp[Ae]
 | fn f caps=>simp[Tp,Ae]
 | agg cs=>simp[Tp,Ae]
 | DE cs=>simp[Tp,Ae]
 | _=>simp only[Tp,Ae] at h ⊢ <;> exact h
theorem Tz {F:Nat→Prop} {w:World} {os:List Own} (hst:os.map Own.row=st) {x:AV} {v:Value} (h:Ae F w os x v):Ae F w (os.map (H8 st)) (Tg st x) v:=
 MT (fun _ _ h=>bW hst h) _ _ h
theorem RZ {F:Nat→Prop} {w:World} {os:List Own} (hst:os.map Own.row=st) {xs:List AV} {us:List Value} (h:BG F w os xs us):BG F w (os.map (H8 st)) (xs.map (Tg st)) us:=
 Cv (by simp[A6 h]) fun i x u hx hu=>by
  simp only[List.getElem?_map,Option.map_eq_some_iff] at hx
  obtain⟨y,hy,rfl⟩:=hx
  obtain⟨u',hu',hr⟩:=BX h i y hy
  rw[hu'] at hu;cases hu
  exact Tz hst hr
theorem dD {F:Nat→Prop} {w:World} {os:List Own} (hst:os.map Own.row=st) {x:AV} {v:Value} (h:Ae F w os x v):Ae F w (os.map (H8 st)) (rg st x) v:=by
 cases x with
 | fn f cs=>simp only[rg,Ae] at h ⊢;obtain⟨us,e,hl⟩:=h;exact⟨us,e,RZ hst hl⟩
 | agg cs=>simp only[rg,Ae] at h ⊢;obtain⟨us,e,hl⟩:=h;exact⟨us,e,RZ hst hl⟩
 | DE cs=>simp only[rg,Ae] at h ⊢;obtain⟨us,e,hl⟩:=h;exact⟨us,e,RZ hst hl⟩
 | _=>exact Tz hst h
def Ko (st:List Row):Prop:=∀row∈st,∀x∈row.xs,∀c∈x,c.kept=true
theorem cd {st:List Row} {c:AV} {el s:Nat} {ys:List (List AV)} (h:Tg st c=.dv el s ys):c=.dv el s ys:=by
 refine Wh (X:=Tp st) (fun c h=>?_) h
 cases c <;> simp only[Tp] at h <;> first | exact h | cases h | (split at h <;> first | cases h | (split at h <;> cases h))
theorem Wk.eK (hl:Ko (st.map (Hk st))):Wk 0 ⟨n,e,st⟩ ⟨n,fun t=>rg st (e t),st.map (Hk st)⟩:=fun F os a w hr=>by
 have hst:=hr.st
 simp only at hst
 refine⟨F,os.map (H8 st),⟨?_,fun t=>dD hst (hr.env t),hr.size,fun i o ho=>?_,fun i j oi oj b hi hj hbi hbj=>?_,hr.EO,hr.defers⟩,⟨rfl,rfl,rfl,Nat.le_refl _,fun _ h=>h,fun _ _=>rfl,fun b _ h1 h2=>⟨rfl,h1,fun o ho=>?_⟩,fun i o hi=>absurd hi (Nat.not_lt_zero _)⟩⟩
 ·simp only[← hst,List.map_map];congr 1
 ·rw[List.getElem?_map,Option.map_eq_some_iff] at ho
  obtain⟨o0,ho0,rfl⟩:=ho
  have hok:=hr.rows i o0 ho0
  have hm:Hk st o0.row∈st.map (Hk st):=List.mem_map.2 ⟨o0.row,by rw[← hst];exact List.mem_map.2 ⟨o0,List.mem_of_getElem? ho0,rfl⟩,rfl⟩
  refine⟨hok.pos,fun x hx=>⟨?_,hl _ hm x hx⟩,fun h=>?_,fun b hb=>?_,hok.mo,hok.deep.keep rfl (fun _ h=>h) rfl (fun _ _=>rfl) (fun i x j e s ys hx hc=>by
   simp only[H8,Hk,List.getElem?_map,Option.map_eq_some_iff] at hx
   obtain⟨y,hy,rfl⟩:=hx
   simp only[List.getElem?_map,Option.map_eq_some_iff] at hc
   obtain⟨d,hd,hc⟩:=hc
   exact⟨y,hy,by rw[hd,cd hc]⟩)⟩
  ·simp only[H8,Hk,List.mem_map] at hx
   obtain⟨y,hy,rfl⟩:=hx
   simpa [H8,Hk] using (hok.lens y hy).1
  ·obtain⟨h1,h2⟩:=hok.none h
   exact⟨by simp[H8,Hk,h1],h2⟩
  ·obtain⟨h1,cur,h2,h3,h4,h5,h6⟩:=hok.some b hb
   refine⟨h1,cur,h2,h3,by simpa [H8,Hk] using h4,h5,fun i' x hx j c hc=>?_⟩
   simp only[H8,Hk,List.getElem?_map,Option.map_eq_some_iff] at hx
   obtain⟨y,hy,rfl⟩:=hx
   simp only[List.getElem?_map,Option.map_eq_some_iff] at hc
   obtain⟨d,hd,rfl⟩:=hc
   obtain⟨u,e1,e2⟩:=h6 i' y hy j d hd
   exact⟨u,e1,Tz hst e2⟩
 ·rw[List.getElem?_map,Option.map_eq_some_iff] at hi hj
  obtain⟨oi0,hi0,rfl⟩:=hi
  obtain⟨oj0,hj0,rfl⟩:=hj
  exact hr.inj i j oi0 oj0 b hi0 hj0 hbi hbj
 ·obtain⟨o0,h0,rfl⟩:=List.mem_map.1 ho
  exact h2 o0 h0
inductive RG (st:List Row):List Row→List Row→Prop
 | nil:RG st [] []
 | deep {g size:Nat} {el:TypeId} {xs:List (List AV)} {r r':List Row} (hp:CO xs) (hl:RG st r r'):RG st (⟨g,el,size,xs⟩ :: r) (⟨0,el,size,xs⟩ :: r')
 | raw {g size:Nat} {el:TypeId} {cs cs':List AV} {r r':List Row} (hc:cs.map (Tg st)=cs') (hp:cs'.all AV.leaf=true) (hl:RG st r r'):RG st (⟨g,el,size,[cs]⟩ :: r) (⟨0,el,size,[cs']⟩ :: r')
theorem RG.pure {g size:Nat} {el:TypeId} {xs:List (List AV)} {r r':List Row} (hp:Dj xs) (hl:RG st r r'):RG st (⟨g,el,size,xs⟩ :: r) (⟨0,el,size,xs⟩ :: r'):=.deep hp.any hl
theorem WB {c:AV} (h:Eg c=true):Tg st c=c:=by cases c <;> simp[Eg,simple,Tg,two,Tp] at h ⊢
theorem RG.spec {st0:List Row} (hle :∀row∈st0,∀x∈row.xs,∀c∈x,c.kept=true) :∀{l l':List Row},RG st l l'→(∀row∈l,row∈st0)→l.map (Hk st)=l'∧Ko l'
 | _,_,.nil,_=>⟨rfl,fun _ h=>by cases h⟩
 | _,_,.deep hp hl,hm=>by
  obtain⟨h1,h2⟩:=RG.spec hle hl (fun row h=>hm row (List.mem_cons_of_mem _ h))
  have hlf:=hle _ (hm _ (List.mem_cons_self ..))
  refine⟨?_,?_⟩
  ·simp only[List.map_cons,h1]
   congr 1
   simp only[Hk]
   congr 1
   refine (List.map_congr_left (g:=id) fun x hx=>?_).trans (List.map_id _)
   refine (List.map_congr_left (g:=id) fun c hc=>?_).trans (List.map_id _)
   exact WB (hp x hx c hc)
  ·intro row hrow
   rcases List.mem_cons.1 hrow with rfl | h
   ·exact hlf
   ·exact h2 row h
 | _,_,.raw hc hp hl,hm=>by
  obtain⟨h1,h2⟩:=RG.spec hle hl (fun row h=>hm row (List.mem_cons_of_mem _ h))
  refine⟨?_,?_⟩
  ·simp only[List.map_cons,h1,Hk,List.map_nil,hc]
  ·intro row hrow
   rcases List.mem_cons.1 hrow with rfl | h
   ·intro x hx c hcx
    simp only[List.mem_singleton] at hx
    subst hx
    exact Cp (List.all_eq_true.1 hp c hcx)
   ·exact h2 row h
theorem Cy (hg:RG st st st') (h:ME (fun t=>Abs.rg st (e t)) L):Wk 0 ⟨n,e,st⟩ ⟨n,AL L,st'⟩:=fun F os a w hr=>by
 have hle :∀row∈st,∀x∈row.xs,∀c∈x,c.kept=true:=fun row hrow x hx c hc=>by
  have hst:=hr.st
  simp only at hst
  rw[← hst] at hrow
  obtain⟨o,ho,rfl⟩:=List.mem_map.1 hrow
  obtain⟨i,hi⟩:=List.mem_iff_getElem?.1 ho
  exact ((hr.rows i o hi).lens x hx).2 c hc
 obtain⟨h1,h2⟩:=hg.spec (st0:=st) hle (fun _ h=>h)
 have h3:Wk 0 ⟨n,e,st⟩ ⟨n,AL L,st'⟩:=by
  have:=Wk.eK (n:=n) (e:=e) (st:=st) (by rw[h1];exact h2)
  rw[h1] at this
  exact this.trans (AS h)
 exact h3 F os a w hr
theorem AJ {α:Type} {l:List α} {enc:α→List AV} (h :∀x,(enc x).all simple=true):Dj (l.map enc):=fun x hx c hc=>by
 obtain⟨y,_,rfl⟩:=List.mem_map.1 hx
 exact List.all_eq_true.1 (h y) c hc
theorem BZ {α:Type} {l:List α} {enc:α→List AV} (h :∀x,(enc x).all simple=true):CO (l.map enc):=(AJ h).any
theorem AR {α:Type} {l:List α} {enc:α→List AV} (h :∀x,(enc x).all Eg=true):CO (l.map enc):=fun x hx c hc=>by
 obtain⟨y,_,rfl⟩:=List.mem_map.1 hx
 exact List.all_eq_true.1 (h y) c hc
theorem GD {cs:List AV} (h:cs.all simple=true):Dj [cs]:=fun x hx c hc=>by
 simp only[List.mem_singleton] at hx
 subst hx
 exact List.all_eq_true.1 h c hc
end Go.Abs

