import Derived.Test.YtpahalfiiahddaaGreatAbsK
namespace Go.Abs
open Go
variable {P : Program} {F : Nat → Prop} {os : List Own} {s : St} {a : Act} {w : World} {k : Nat}
def JA (id g:Nat) (xs:List (List AV)):AV→AV
 | .own id' g' n=>if id'=id∧g'=g then .sl (xs.drop (xs.length - n)) else .own id' g' n
 | .ptr id' g' i off=>if id'=id∧g'=g then (match xs[i]? with | some x=>.Bd x off | none=>.Eu) else .ptr id' g' i off
 | v=>v
def DN (id g:Nat) (xs:List (List AV)):AV→AV
 | .agg cs=>.agg (cs.map (JA id g xs))
 | .DE cs=>.DE (cs.map (JA id g xs))
 | v=>JA id g xs v
def Dj (xs:List (List AV)):Prop:=∀x∈xs,∀c∈x,simple c=true
def CO (xs:List (List AV)):Prop:=∀x∈xs,∀c∈x,Eg c=true
theorem Dj.any {xs:List (List AV)} (h:Dj xs):CO xs:=fun x hx c hc=>Sg (h x hx c hc)
theorem Wk.freeze {id:Nat} {row:Row} (hid:k≤id) (hrow:s.st[id]?=some row) (hp:Dj row.xs) :
  Wk k s ⟨s.n,fun t=>DN id row.gen row.xs (s.env t),s.st.set id { row with gen:=row.gen+1,xs:=[] }⟩:=fun F os a w hr=>by
 obtain⟨o,ho,rfl⟩:=hr.row hrow
 have hok:=hr.rows id o ho
 have hfl :∀x∈o.row.xs,∀c∈x,c.leaf=true:=fun x hx c hc=>by
  have h1:=hp x hx c hc
  have h2:=(hok.lens x hx).2 c hc
  cases c <;> simp_all [simple,AV.leaf,AV.kept]
 refine⟨fun b=>F b∨o.Eb=some b,os.set id ⟨{ o.row with gen:=o.row.gen+1,xs:=[] },none,0,o.more⟩,?_,?_⟩
 case refine_2=>
  refine⟨rfl,rfl,rfl,Nat.le_refl _,fun _ h=>.inl h,fun _ _=>rfl,fun b _ h1 h2=>⟨rfl,fun h=>h.elim h1 (fun e=>h2 o (List.mem_of_getElem? ho) (.inl e)),fun o' ho'=>?_⟩,fun i oi hi hoi=>⟨oi,?_,Nat.le_refl _,rfl,fun _=>⟨rfl,rfl,rfl⟩⟩⟩
  ·rcases List.mem_or_eq_of_mem_set ho' with h | rfl
   ·exact h2 o' h
   ·intro hh
    rcases hh with hh | hh
    ·simp at hh
    ·exact h2 o (List.mem_of_getElem? ho) (.inr hh)
  ·rw[List.getElem?_set_ne (by omega)];exact hoi
 have hF :∀b,F b→(fun b=>F b∨o.Eb=some b) b:=fun _ h=>.inl h
 have hos:D3 os (os.set id ⟨{ o.row with gen:=o.row.gen+1,xs:=[] },none,0,o.more⟩):=D3.set ho (by simp) rfl (fun e=>by simp at e)
 have hmono :∀x v,Ae F w os x v→Ae (fun b=>F b∨o.Eb=some b) w (os.set id ⟨{ o.row with gen:=o.row.gen+1,xs:=[] },none,0,o.more⟩) x v:=fun x v h=>
  B6 hF (fun _ _=>rfl) os _ hos x v h
 have hcell :∀x∈o.row.xs,∀c∈x,∀u,Ae F w os c u→Ae (fun b=>F b∨o.Eb=some b) w [] c u:=fun x hx c hc u hu=>
  B6 hF (fun _ _=>rfl) [] [] (by simp) c u (En (hp x hx c hc) [] hu)
 have h1 :∀x v,Ae F w os x v→Ae (fun b=>F b∨o.Eb=some b) w (os.set id ⟨{ o.row with gen:=o.row.gen+1,xs:=[] },none,0,o.more⟩) (JA id o.row.gen o.row.xs x) v:=fun x v h=>by
  cases x with
  | own id' g' n=>
   simp only[JA]
   split
   ·rename_i hif
    obtain⟨rfl,rfl⟩:=hif
    simp only[Ae] at h ⊢
    obtain⟨o',ho',_,_,h⟩:=h
    rw[ho] at ho';cases ho'
    obtain⟨hn,hv⟩:=h rfl
    have hlen:(o.row.xs.drop (o.row.xs.length - n)).length=n:=by simp;omega
    rcases hv with ⟨hb,ad,rfl⟩ | ⟨b,hb,rfl⟩
    ·have:=(hok.none hb).1
     rw[this] at hn
     simp only[List.length_nil,Nat.le_zero] at hn
     subst hn
     exact⟨ad,0,by simp,by simp,by simp⟩
    ·obtain⟨_,cur,hcur,hsz,hle,_,hcells⟩:=hok.some b hb
     refine⟨_,o.cap - (o.row.xs.length - n),by rw[hlen],by rw[hlen];omega,fun _=>⟨b,(o.row.xs.length - n) * o.row.size,o.row.size,rfl,.inr hb,fun x hx=>(hok.lens x (List.mem_of_mem_drop hx)).1,?_⟩⟩
     refine Is (fun x hx=>(hok.lens x (List.mem_of_mem_drop hx)).1) fun i x hx=>Hn fun j c hc=>?_
     have hxm:=List.mem_of_getElem? hx
     rw[List.getElem?_drop] at hx
     obtain⟨u,e1,e2⟩:=hcells _ x hx j c hc
     refine⟨u,?_,hfl x (List.mem_of_getElem? hx) c (List.mem_of_getElem? hc),hcell x (List.mem_of_getElem? hx) c (List.mem_of_getElem? hc) u e2⟩
     rw[cell_of_row w b _ cur _ _ hcur]
     rw[← Nat.add_mul];exact e1
   ·exact hmono _ _ h
  | ptr id' g' i off=>
   simp only[JA]
   split
   ·rename_i hif
    obtain⟨rfl,rfl⟩:=hif
    simp only[Ae] at h
    obtain⟨o',ho',_,_,h⟩:=h
    rw[ho] at ho';cases ho'
    obtain⟨hi,_,b,hb,rfl⟩:=h rfl
    rw[List.getElem?_eq_getElem hi]
    obtain⟨_,cur,hcur,hsz,hle,_,hcells⟩:=hok.some b hb
    simp only[Ae]
    refine⟨b,i * o.row.size,rfl,.inr hb,Hn fun j c hc=>?_⟩
    have hm:=List.getElem_mem hi
    obtain⟨u,e1,e2⟩:=hcells i _ (List.getElem?_eq_getElem hi) j c hc
    refine⟨u,?_,hfl _ hm c (List.mem_of_getElem? hc),hcell _ hm c (List.mem_of_getElem? hc) u e2⟩
    rw[cell_of_row w b _ cur _ _ hcur]
    exact e1
   ·exact hmono _ _ h
  | _=>exact hmono _ _ h
 have hL :∀xs us,BG F w os xs us→BG (fun b=>F b∨o.Eb=some b) w (os.set id ⟨{ o.row with gen:=o.row.gen+1,xs:=[] },none,0,o.more⟩) (xs.map (JA id o.row.gen o.row.xs)) us:=fun xs us h=>
  Cv (by simp[A6 h]) fun i x u hx hu=>by
   simp only[List.getElem?_map,Option.map_eq_some_iff] at hx
   obtain⟨y,hy,rfl⟩:=hx
   obtain⟨u',e1,e2⟩:=BX h i y hy
   rw[hu] at e1;cases e1
   exact h1 _ _ e2
 have hget :∀(i:Nat) (oi:Own),(os.set id ⟨{ o.row with gen:=o.row.gen+1,xs:=[] },none,0,o.more⟩)[i]?=some oi→(i≠id∧os[i]?=some oi)∨(i=id∧oi=⟨{ o.row with gen:=o.row.gen+1,xs:=[] },none,0,o.more⟩):=fun i oi hi=>by
  by_cases e:i=id
  ·subst e;rw[List.getElem?_set_self (List.getElem?_eq_some_iff.1 ho).1,Option.some.injEq] at hi;exact .inr ⟨rfl,hi.symm⟩
  ·rw[List.getElem?_set_ne (Ne.symm e)] at hi;exact .inl ⟨e,hi⟩
 refine⟨by rw[List.map_set,hr.st],fun t=>?_,hr.size,fun i oi hi=>?_,fun i j oi oj b hi hj hbi hbj=>?_,fun b hb=>?_,hr.defers⟩
 ·have:=hr.env t
  simp only
  generalize s.env t=x at this ⊢
  cases x with
  | agg cs=>simp only[DN,Ae] at this ⊢;obtain⟨us,e,h⟩:=this;exact⟨us,e,hL _ _ h⟩
  | DE cs=>simp only[DN,Ae] at this ⊢;obtain⟨us,e,h⟩:=this;exact⟨us,e,hL _ _ h⟩
  | _=>exact h1 _ _ this
 ·rcases hget i oi hi with ⟨hne,h⟩ | ⟨_,rfl⟩
  ·have hoki:=hr.rows i oi h
   refine⟨hoki.pos,hoki.lens,hoki.none,fun b hb=>?_,fun b hb=>⟨fun hF=>hF.elim (hoki.mo b hb).1 (fun hob=>hne (hr.inj i id oi o b h ho (.inr hb) (.inl hob))),(hoki.mo b hb).2⟩,hoki.deep⟩
   obtain⟨e1,cur,e2,e3,e4,e5,e6⟩:=hoki.some b hb
   refine⟨fun hF=>hF.elim e1 (fun hob=>hne (hr.inj i id oi o b h ho (.inl hb) (.inl hob))),cur,e2,e3,e4,e5,fun i' x hx j c hc=>?_⟩
   obtain⟨u,f1,f2⟩:=e6 i' x hx j c hc
   exact⟨u,f1,hmono _ _ f2⟩
  ·exact⟨hok.pos,by simp,by simp,by simp,fun b hb=>⟨fun hF=>hF.elim (hok.mo b hb).1 (hok.mo b hb).2.2,(hok.mo b hb).2.1,by simp⟩,Cs (by simp)⟩
 ·rcases hget i oi hi with ⟨hne,h⟩ | ⟨h,rfl⟩ <;> rcases hget j oj hj with ⟨hne',h'⟩ | ⟨h',rfl⟩
  ·exact hr.inj i j oi oj b h h' hbi hbj
  ·exact hr.inj i j oi o b h (h' ▸ ho) hbi (hbj.elim (fun e=>by simp at e) .inr)
  ·exact hr.inj i j o oj b (h ▸ ho) h' (hbi.elim (fun e=>by simp at e) .inr) hbj
  ·omega
 ·rcases hb with hb | hb
  ·exact hr.EO b hb
  ·obtain⟨_,cur,hcur,_⟩:=hok.some b hb
   exact (Array.getElem?_eq_some_iff.1 hcur).1
def Lh (m:Nat):AV→AV
 | .own id g n=>.own (id+m) g n
 | .ptr id g i off=>.ptr (id+m) g i off
 | .fn .. | .agg _ | .DE _=>.Eu
 | v=>v
def Ob (m:Nat) (x:AV):AV:=two (Lh m) x
def shift (m:Nat):AV→AV
 | .fn f cs=>.fn f (cs.map (Ob m))
 | .agg cs=>.agg (cs.map (Ob m))
 | .DE cs=>.DE (cs.map (Ob m))
 | v=>Ob m v
theorem X4 {os1:List Own} {x:AV} {v:Value} (h:Ae F w os1 x v):Ae F w (os ++ os1) (Lh os.length x) v:=by
 have hget :∀id,(os ++ os1)[id+os.length]?=os1[id]?:=fun id=>by rw[List.getElem?_append_right (by omega)];congr 1;omega
 cases x with
 | own id g n=>simp only[Lh,Ae] at h ⊢;rw[hget];exact h
 | ptr id g i off=>simp only[Lh,Ae] at h ⊢;rw[hget];exact h
 | fn f cs=>simp[Lh,Ae]
 | agg cs=>simp[Lh,Ae]
 | DE cs=>simp[Lh,Ae]
 | _=>simp only[Lh,Ae] at h ⊢ <;> exact h
theorem SL {os1:List Own} {x:AV} {v:Value} (h:Ae F w os1 x v):Ae F w (os ++ os1) (Ob os.length x) v:=
 MT (fun _ _ h=>X4 h) _ _ h
theorem Mm {os1:List Own} {xs:List AV} {us:List Value} (h:BG F w os1 xs us):BG F w (os ++ os1) (xs.map (Ob os.length)) us:=
 Cv (by simp[A6 h]) fun i x u hx hu=>by
  simp only[List.getElem?_map,Option.map_eq_some_iff] at hx
  obtain⟨y,hy,rfl⟩:=hx
  obtain⟨u',e1,e2⟩:=BX h i y hy
  rw[hu] at e1;cases e1
  exact SL e2
theorem Uh {os1:List Own} {x:AV} {v:Value} (h:Ae F w os1 x v):Ae F w (os ++ os1) (shift os.length x) v:=by
 cases x with
 | fn f cs=>simp only[shift,Ae] at h ⊢;obtain⟨us,e,hl⟩:=h;exact⟨us,e,Mm hl⟩
 | agg cs=>simp only[shift,Ae] at h ⊢;obtain⟨us,e,hl⟩:=h;exact⟨us,e,Mm hl⟩
 | DE cs=>simp only[shift,Ae] at h ⊢;obtain⟨us,e,hl⟩:=h;exact⟨us,e,Mm hl⟩
 | _=>exact SL h
def Me:AV→Bool
 | .sl _ | .Bd .. | .fn .. | .agg _ | .DE _=>false
 | _=>true
def ZE:AV→Bool
 | .agg cs=>cs.all Me
 | v=>Me v
def ZM:AV→Bool
 | .DE cs=>cs.all ZE
 | v=>ZE v
theorem Pe {F':Nat→Prop} {x:AV} {v:Value} (hx:Me x=true) (h:Ae F w os x v):Ae F' w os x v:=by
 cases x <;> simp only[Me,Bool.false_eq_true] at hx <;> simp only[Ae] at h ⊢ <;> exact h
theorem UD {F':Nat→Prop} {x:AV} {v:Value} (hx:ZE x=true) (h:Ae F w os x v):Ae F' w os x v:=by
 cases x with
 | agg cs=>
  simp only[Ae] at h ⊢
  obtain⟨us,e,hl⟩:=h
  refine⟨us,e,Cv (A6 hl) fun i x u hx' hu=>?_⟩
  obtain⟨u',e1,e2⟩:=BX hl i x hx'
  rw[hu] at e1;cases e1
  exact Pe (List.all_eq_true.1 hx x (List.mem_of_getElem? hx')) e2
 | _=>exact Pe hx h
theorem Zf {F':Nat→Prop} {x:AV} {v:Value} (hx:ZM x=true) (h:Ae F w os x v):Ae F' w os x v:=by
 cases x with
 | DE cs=>
  simp only[Ae] at h ⊢
  obtain⟨us,e,hl⟩:=h
  refine⟨us,e,Cv (A6 hl) fun i x u hx' hu=>?_⟩
  obtain⟨u',e1,e2⟩:=BX hl i x hx'
  rw[hu] at e1;cases e1
  exact UD (List.all_eq_true.1 hx x (List.mem_of_getElem? hx')) e2
 | _=>exact UD hx h
theorem Rel.join {F0 F':Nat→Prop} {w':World} {os1:List Own} {st1:List Row} (hr:Rel F0 os s a w') (hs:Ft F' os1 st1 w') (hFF :∀b,F0 b→F' b) (hp :∀row∈st1,CO row.xs)
  (hscal:(∀b,F' b→F0 b)∨∀row∈st1,∀x∈row.xs,∀c∈x,Me c=true) (hdis :∀(i:Nat) (o:Own),os[i]?=some o→∀b,o.owns b→∀o1:Own,o1∈os1→¬ o1.owns b) :
  Rel F0 (os ++ os1) { s with st:=s.st ++ st1 } a w':=by
 have hos:D3 os (os ++ os1):=D3.append os os1
 have hmono :∀x v,Ae F0 w' os x v→Ae F0 w' (os ++ os1) x v:=fun x v h=>B6 (fun _ h=>h) (fun _ _=>rfl) os _ hos x v h
 have hget :∀(i:Nat) (o:Own),(os ++ os1)[i]?=some o→(i < os.length∧os[i]?=some o)∨(os.length≤i∧os1[i - os.length]?=some o):=fun i o h=>by
  by_cases hi:i < os.length
  ·rw[List.getElem?_append_left hi] at h;exact .inl ⟨hi,h⟩
  ·rw[List.getElem?_append_right (by omega)] at h;exact .inr ⟨by omega,h⟩
 refine⟨by rw[List.map_append,hr.st,hs.st],fun t=>hmono _ _ (hr.env t),hr.size,fun i o ho=>?_,fun i j oi oj b hi hj hbi hbj=>?_,hr.EO,hr.defers⟩
 ·rcases hget i o ho with ⟨_,h⟩ | ⟨_,h⟩
  ·have hok:=hr.rows i o h
   refine⟨hok.pos,hok.lens,hok.none,fun b hb=>?_,hok.mo,hok.deep⟩
   obtain⟨e1,cur,e2,e3,e4,e5,e6⟩:=hok.some b hb
   exact⟨e1,cur,e2,e3,e4,e5,fun i' x hx j c hc=>by obtain⟨u,f1,f2⟩:=e6 i' x hx j c hc;exact⟨u,f1,hmono _ _ f2⟩⟩
  ·have hok:=hs.rows _ o h
   refine⟨hok.pos,hok.lens,hok.none,fun b hb=>?_,fun b hb=>⟨fun hF=>(hok.mo b hb).1 (hFF b hF),(hok.mo b hb).2⟩,hok.deep⟩
   obtain⟨e1,cur,e2,e3,e4,e5,e6⟩:=hok.some b hb
   refine⟨fun hF=>e1 (hFF b hF),cur,e2,e3,e4,e5,fun i' x hx j c hc=>?_⟩
   obtain⟨u,f1,f2⟩:=e6 i' x hx j c hc
   have hrow:o.row∈st1:=by rw[← hs.st];exact List.mem_map.2 ⟨o,List.mem_of_getElem? h,rfl⟩
   have hsim:=hp o.row hrow x (List.mem_of_getElem? hx) c (List.mem_of_getElem? hc)
   have f3:=WY hsim (os ++ os1) f2
   refine⟨u,f1,?_⟩
   rcases hscal with h1 | h1
   ·exact B6 h1 (fun _ _=>rfl) _ _ (D3.refl _) c u f3
   ·exact Pe (h1 o.row hrow x (List.mem_of_getElem? hx) c (List.mem_of_getElem? hc)) f3
 ·rcases hget i oi hi with ⟨_,h⟩ | ⟨_,h⟩ <;> rcases hget j oj hj with ⟨_,h'⟩ | ⟨_,h'⟩
  ·exact hr.inj i j oi oj b h h' hbi hbj
  ·exact absurd hbj (hdis i oi h b hbi oj (List.mem_of_getElem? h'))
  ·exact absurd hbi (hdis j oj h' b hbj oi (List.mem_of_getElem? h))
  ·have:=hs.inj _ _ oi oj b h h' hbi hbj;omega
theorem Uq {f:FuncId} {args:List AV} {d:Option Tmp} {K:St→Prop} {R:AV→List Row→Prop} (h:Aa P f args [] R) (hf:args.all flat=true)
  (hK :∀r st',R r st'→(∀row∈st',CO row.xs)∧K ({ s with st:=s.st ++ st' }.put d (shift s.st.length r))):callThen P k s f args d K:=by
 intro F os a w vs hr hl
 refine (h F [] w vs (Ft.nil hr.EO) (Pj hf [] hl)).mono ?_
 rintro e w' ⟨u,r,st',F',os1,rfl,hR,hs,hru,he⟩
 obtain⟨hp,hk⟩:=hK r st' hR
 obtain⟨h1,h2,_,hdis⟩:=hr.after (k:=k) he hs.EO
 refine⟨u,_,s.st ++ st',F',os ++ os1,rfl,hk,h1.join hs (fun _ h=>h) hp (.inl fun _ h=>h) hdis,?_,?_⟩
 ·rw[hr.len];exact Uh hru
 ·refine⟨h2.sys,h2.tape,h2.output,h2.size,h2.LY,h2.HP,fun b hb e1 e2=>?_,fun i o hi ho=>?_⟩
  ·obtain⟨f1,f2,f3⟩:=he.other b hb e1 (by simp)
   exact⟨f1,f2,fun o ho=>by rcases List.mem_append.1 ho with h | h;exact e2 o h;exact f3 o h⟩
  ·exact D3.append os os1 i o ho
mutual
def NU:AV→AV
 | .dv _ _ xs=>.sl (JN xs)
 | c=>c
def JN:List (List AV)→List (List AV)
 | []=>[]
 | x :: r=>GX x :: JN r
def GX:List AV→List AV
 | []=>[]
 | c :: r=>NU c :: GX r
end
theorem MG :∀x:List AV,GX x=x.map NU
 | []=>by simp[GX]
 | c :: r=>by simp[GX,MG r]
theorem Ga :∀xs:List (List AV),JN xs=xs.map GX
 | []=>by simp[JN]
 | x :: r=>by simp[JN,Ga r]
theorem SN {c:AV} (h:simple c=true):NU c=c:=by cases c <;> simp_all [simple,NU]
mutual
theorem RM {S F:Nat→Prop} {w:World} (hS :∀b,S b→F b) :∀(x:AV) (v:Value),DG S w x v→Ae F w [] (NU x) v∧(NU x).leaf=true
 | .dv el size xs,v,h=>by
  simp only[DG] at h
  obtain⟨hp,h⟩:=h
  simp only[NU,Ae,AV.leaf,and_true]
  rcases h with ⟨rfl,a,rfl⟩ | ⟨b,cap,cur,rfl,h2,h3,h4,h5,h6,h7,h8⟩
  ·exact⟨a,0,by simp[JN],by simp[JN],by simp[JN]⟩
  ·refine⟨_,cap,by simp[Ga],by simpa [Ga] using h2,fun _=>⟨b,0,size,rfl,hS b h4,fun x hx=>?_,Te (S:=fun c=>S c∧c≠b) (fun c hc=>hS c hc.1) h5 xs 0 h8⟩⟩
   rw[Ga] at hx
   obtain⟨y,hy,rfl⟩:=List.mem_map.1 hx
   rw[MG,List.length_map];exact h7 y hy
 | .int _ _,_,h=>by simpa [DG,NU,Ae,AV.leaf] using h
 | .bool _,_,h=>by simpa [DG,NU,Ae,AV.leaf] using h
 | .str _,_,h=>by simpa [DG,NU,Ae,AV.leaf] using h
 | .zc,_,h=>by simpa [DG,NU,Ae,AV.leaf] using h
 | .PG,_,h=>by simpa [DG,NU,Ae,AV.leaf] using h
 | .O1,_,h=>by simpa [DG,NU,Ae,AV.leaf] using h
 | .Eu,_,h=>by simp[DG] at h
 | .un,_,h=>by simp[DG] at h
 | .sl _,_,h=>by simp[DG] at h
 | .own ..,_,h=>by simp[DG] at h
 | .ptr ..,_,h=>by simp[DG] at h
 | .Bd ..,_,h=>by simp[DG] at h
 | .fn ..,_,h=>by simp[DG] at h
 | .agg _,_,h=>by simp[DG] at h
 | .DE _,_,h=>by simp[DG] at h
theorem Te {S F:Nat→Prop} {w:World} (hS :∀b,S b→F b) {b:Nat} {cur:Array Value} {el:TypeId} (hcur:w.heap[b]?=some (.cells cur el (0,0))) :∀(xs:List (List AV)) (o:Nat),Jt S w xs cur o→GN F w (JN xs) b o
 | [],_,_=>by simp[JN,GN]
 | x :: r,o,h=>by
  simp only[Jt] at h
  simp only[JN,GN]
  obtain⟨S1,S2,h1,h2,_,h4,h5⟩:=h
  have hl:(GX x).length=x.length:=by rw[MG,List.length_map]
  rw[hl]
  exact⟨Ta (fun c hc=>hS c (h1 c hc)) hcur x o h4,Te (fun c hc=>hS c (h2 c hc)) hcur r _ h5⟩
theorem Ta {S F:Nat→Prop} {w:World} (hS :∀b,S b→F b) {b:Nat} {cur:Array Value} {el:TypeId} (hcur:w.heap[b]?=some (.cells cur el (0,0))) :∀(xs:List AV) (o:Nat),Jw S w xs cur o→EJ F w (GX xs) b o
 | [],_,_=>by simp[GX,EJ]
 | x :: r,o,h=>by
  simp only[Jw] at h
  simp only[GX,EJ]
  obtain⟨S1,S2,h1,h2,_,⟨u,h4,h5⟩,h6⟩:=h
  obtain⟨g1,g2⟩:=RM (fun c hc=>hS c (h1 c hc)) x u h5
  exact⟨⟨u,by rw[cell_of_row w b _ cur _ _ hcur];exact h4,g2,g1⟩,Ta (fun c hc=>hS c (h2 c hc)) hcur r _ h6⟩
end
def QW (st:List Row):AV→AV
 | .own id g n=>match st[id]? with
  | some row=>if row.gen=g then .sl (JN (row.xs.drop (row.xs.length - n))) else .Eu
  | none=>.Eu
 | v=>v
def GJ (st:List Row):AV→AV
 | .agg cs=>.agg (cs.map (QW st))
 | v=>QW st v
def OT (args:List AV) (id g n:Nat):Prop:=AV.own id g n∈args∨∃cs,AV.agg cs∈args∧AV.own id g n∈cs
def Q5 (F:Nat→Prop) (os:List Own) (args:List AV) (b:Nat):Prop:=F b∨∃id g n o,OT args id g n∧os[id]?=some o∧o.owns b
theorem Zx (hr:Rel F os s a w) {F1:Nat→Prop} (hF1 :∀b,F b→F1 b) {id g n:Nat} {o:Own} (ho:os[id]?=some o) (hl :∀b,o.owns b→F1 b) (hpr:CO o.row.xs) {u:Value}
  (e2:Ae F w os (.own id g n) u) (hg:o.row.gen=g):Ae F1 w os (.sl (JN (o.row.xs.drop (o.row.xs.length - n)))) u:=by
 have hok:=hr.rows id o ho
 have hm :∀x v,Ae F w os x v→Ae F1 w os x v:=fun x v h=>B6 hF1 (fun _ _=>rfl) os os (D3.refl os) x v h
 simp only[Ae] at e2 ⊢
 obtain⟨o',ho',_,_,e2⟩:=e2
 rw[ho] at ho';cases ho'
 obtain⟨hn,hv⟩:=e2 hg
 have hlen:(JN (o.row.xs.drop (o.row.xs.length - n))).length=n:=by simp[Ga];omega
 rcases hv with ⟨hb,ad,rfl⟩ | ⟨b,hb,rfl⟩
 ·have:=(hok.none hb).1
  rw[this] at hn
  simp only[List.length_nil,Nat.le_zero] at hn
  subst hn
  exact⟨ad,0,by simp[Ga],by simp[Ga],by simp[Ga]⟩
 ·obtain⟨_,cur,hcur,hsz,hle,_,hcells⟩:=hok.some b hb
  have hls :∀x∈JN (o.row.xs.drop (o.row.xs.length - n)),x.length=o.row.size:=fun x hx=>by
   rw[Ga] at hx
   obtain⟨y,hy,rfl⟩:=List.mem_map.1 hx
   rw[MG,List.length_map];exact (hok.lens y (List.mem_of_mem_drop hy)).1
  refine⟨_,o.cap - (o.row.xs.length - n),by rw[hlen],by rw[hlen];omega,fun _=>⟨b,(o.row.xs.length - n) * o.row.size,o.row.size,rfl,hl b (.inl hb),hls,?_⟩⟩
  refine Is hls fun i x hx=>Hn fun j c hc=>?_
  rw[Ga,List.getElem?_map,Option.map_eq_some_iff] at hx
  obtain⟨x0,hx0,rfl⟩:=hx
  rw[MG,List.getElem?_map,Option.map_eq_some_iff] at hc
  obtain⟨c0,hc0,rfl⟩:=hc
  rw[List.getElem?_drop] at hx0
  ·have hsi:=hpr x0 (List.mem_of_getElem? hx0) c0 (List.mem_of_getElem? hc0)
   have hk:=(hok.lens x0 (List.mem_of_getElem? hx0)).2 c0 (List.mem_of_getElem? hc0)
   by_cases hd :∃el sz ys,c0=.dv el sz ys
   ·obtain⟨el,sz,ys,rfl⟩:=hd
    obtain⟨D,d1,_,d3⟩:=hok.deep
    obtain⟨u,f1,f2⟩:=d3 b hb cur _ _ hcur _ x0 j el sz ys hx0 hc0
    obtain⟨g1,g2⟩:=RM (F:=F1) (fun c hc=>hl c (.inr (d1 _ _ _ hc))) _ u f2
    exact⟨u,by rw[cell_of_row w b _ cur _ _ hcur,← Nat.add_mul];exact f1,g2,g1⟩
   ·have hs:simple c0=true:=by cases c0 <;> simp_all [Eg]
    rw[SN hs]
    obtain⟨u,f1,f2⟩:=hcells _ x0 hx0 j c0 hc0
    refine⟨u,?_,by cases c0 <;> simp_all [AV.kept],En hs [] (hm _ _ f2)⟩
    rw[cell_of_row w b _ cur _ _ hcur,← Nat.add_mul]
    exact f1
theorem Y8 (hr:Rel F os s a w) {args:List AV} {vs:List Value} (hl:BG F w os args vs) (hpure :∀id g n,OT args id g n→∀row,s.st[id]?=some row→CO row.xs) :
  BG (Q5 F os args) w os (args.map (GJ s.st)) vs:=by
 have hF1 :∀b,F b→Q5 F os args b:=fun _ h=>.inl h
 have hm :∀x v,Ae F w os x v→Ae (Q5 F os args) w os x v:=fun x v h=>B6 hF1 (fun _ _=>rfl) os os (D3.refl os) x v h
 have h0 :∀y u,(∀id g n,y=AV.own id g n→OT args id g n)→Ae F w os y u→Ae (Q5 F os args) w os (QW s.st y) u:=fun y u hin e2=>by
  cases y with
  | own id g n=>
   simp only[QW]
   split
   ·rename_i row hrow
    split
    ·rename_i hg
     obtain⟨o,ho,rfl⟩:=hr.row hrow
     exact Zx hr hF1 ho (fun b hb=>.inr ⟨id,g,n,o,hin id g n rfl,ho,hb⟩) (hpure id g n (hin id g n rfl) o.row hrow) e2 hg
    ·simp[Ae]
   ·simp[Ae]
  | _=>exact hm _ _ e2
 refine Cv (by simp[A6 hl]) fun i x u hx hu=>?_
 simp only[List.getElem?_map,Option.map_eq_some_iff] at hx
 obtain⟨y,hy,rfl⟩:=hx
 obtain⟨u',e1,e2⟩:=BX hl i y hy
 rw[hu] at e1;cases e1
 have hym:=List.mem_of_getElem? hy
 cases y with
 | agg cs=>
  simp only[GJ,Ae] at e2 ⊢
  obtain⟨us,e,hcs⟩:=e2
  refine⟨us,e,Cv (by simp[A6 hcs]) fun j x u hx hu=>?_⟩
  simp only[List.getElem?_map,Option.map_eq_some_iff] at hx
  obtain⟨y,hy,rfl⟩:=hx
  obtain⟨u',e1,e2⟩:=BX hcs j y hy
  rw[hu] at e1;cases e1
  exact h0 y u (fun id g n e=>.inr ⟨cs,hym,e ▸ List.mem_of_getElem? hy⟩) e2
 | own id g n=>exact h0 _ u (fun id' g' n' e=>.inl (e ▸ hym)) e2
 | _=>exact hm _ _ e2
theorem Wy {P:Program} {s:St} {f:FuncId} {args:List AV} {R:AV→List Row→Prop} {k:Nat} (h:Aa P f (args.map (GJ s.st)) [] R) (hf:(args.map (GJ s.st)).all flat=true)
  (hpure :∀id g n,OT args id g n→∀row,s.st[id]?=some row→CO row.xs) {F:Nat→Prop} {os:List Own} {a:Act} {w:World} {vs:List Value} (hr:Rel F os s a w) (hl:BG F w os args vs) :
  Calls P f vs.toArray w fun e w'=>∃u r st' F' os1,e=.returned u∧R r st'∧Rel F os s a w'∧Ft F' os1 st' w'∧Ae F' w' os1 r u∧(∀b,F b→F' b)∧Ext F os w F os w' k∧
   (∀(i:Nat) (o:Own),os[i]?=some o→∀b,o.owns b→∀o1:Own,o1∈os1→¬ o1.owns b)∧∀b,b < w.heap.size→¬ F b→(∀o:Own,o∈os→¬ o.owns b)→∀o1:Own,o1∈os1→¬ o1.owns b:=by
 have hF1 :∀b,F b→Q5 F os args b:=fun _ h=>.inl h
 have hlt :∀(i:Nat) (o:Own) b,os[i]?=some o→o.owns b→b < w.heap.size:=fun i o b hi hb=>(hr.rows i o hi).lt hb
 have hold1 :∀b,Q5 F os args b→b < w.heap.size:=fun b hb=>by
  rcases hb with hb | ⟨id,g,n,o,_,ho,hob⟩
  ·exact hr.EO b hb
  ·exact hlt id o b ho hob
 have hargs:=Y8 hr hl hpure
 refine (h (Q5 F os args) [] w vs (Ft.nil hold1) (Pj hf [] hargs)).mono ?_
 rintro e w' ⟨u,r,st',F',os1,rfl,hR,hs,hru,he⟩
 have hrow :∀(i:Nat) (o:Own),os[i]?=some o→∀b,o.owns b→w'.heap[b]?=w.heap[b]?∧∀o1:Own,o1∈os1→¬ o1.owns b:=fun i o ho b hb=>by
  by_cases h1:Q5 F os args b
  ·refine⟨he.HP b h1,fun o1 ho1 e=>?_⟩
   obtain⟨j,hj⟩:=List.mem_iff_getElem?.1 ho1
   exact (hs.rows j o1 hj).nF e (he.LY b h1)
  ·obtain⟨f1,_,f3⟩:=he.other b (hlt i o b ho hb) h1 (by simp)
   exact⟨f1,f3⟩
 have hmono :∀x v,Ae F w os x v→Ae F w' os x v:=fun x v h=>B6 (fun _ h=>h) (fun b hb=>he.HP b (hF1 b hb)) os os (D3.refl os) x v h
 have hr':Rel F os s a w':=⟨hr.st,fun t=>hmono _ _ (hr.env t),hr.size,fun i o ho=>by
   have hok:=hr.rows i o ho
   refine⟨hok.pos,hok.lens,hok.none,fun b hb=>?_,fun b hb=>⟨(hok.mo b hb).1,Nat.lt_of_lt_of_le (hok.mo b hb).2.1 he.size,(hok.mo b hb).2.2⟩,hok.deep.keep rfl (fun _ h=>h) rfl (fun b hb=>(hrow i o ho b hb).1) (fun i x j e s ys hx hc=>⟨x,hx,hc⟩)⟩
   obtain⟨e1,cur,e2,e3,e4,e5,e6⟩:=hok.some b hb
   exact⟨e1,cur,by rw[(hrow i o ho b (.inl hb)).1];exact e2,e3,e4,e5,fun i' x hx j c hc=>by obtain⟨u,f1,f2⟩:=e6 i' x hx j c hc;exact⟨u,f1,hmono _ _ f2⟩⟩,
  hr.inj,fun b hb=>Nat.lt_of_lt_of_le (hr.EO b hb) he.size,hr.defers⟩
 have hoth :∀b,b < w.heap.size→¬ F b→(∀o:Own,o∈os→¬ o.owns b)→w'.heap[b]?=w.heap[b]?∧∀o1:Own,o1∈os1→¬ o1.owns b:=fun b hb e1 e2=>by
  have hnF1:¬ Q5 F os args b:=fun h=>h.elim e1 (fun⟨id,g,n,o,_,ho,hob⟩=>e2 o (List.mem_of_getElem? ho) hob)
  obtain⟨f1,_,f3⟩:=he.other b hb hnF1 (by simp)
  exact⟨f1,f3⟩
 exact⟨u,r,st',F',os1,rfl,hR,hr',hs,hru,fun b hb=>he.LY b (hF1 b hb),
  ⟨he.sys,he.tape,he.output,he.size,fun _ h=>h,fun b hb=>he.HP b (hF1 b hb),fun b hb e1 e2=>⟨(hoth b hb e1 e2).1,e1,e2⟩,fun i o _ ho=>⟨o,ho,Nat.le_refl _,rfl,fun _=>⟨rfl,rfl,rfl⟩⟩⟩,
  fun i o ho b hb=>(hrow i o ho b hb).2,fun b hb e1 e2=>(hoth b hb e1 e2).2⟩
theorem MD {f:FuncId} {args:List AV} {d:Option Tmp} {K:St→Prop} {R:AV→List Row→Prop} (h:Aa P f (args.map (GJ s.st)) [] R) (hf:(args.map (GJ s.st)).all flat=true)
  (hpure :∀id g n,OT args id g n→∀row,s.st[id]?=some row→CO row.xs)
  (hK :∀r st',R r st'→(ZM r=true∧∀row∈st',∀x∈row.xs,∀c∈x,Me c=true)∧(∀row∈st',CO row.xs)∧K ({ s with st:=s.st ++ st' }.put d (shift s.st.length r))):callThen P k s f args d K:=by
 intro F os a w vs hr hl
 refine (Wy (k:=k) h hf hpure hr hl).mono ?_
 rintro e w' ⟨u,r,st',F',os1,rfl,hR,hr',hs,hru,hFF,he,hdis,hoth⟩
 obtain⟨⟨hsr,hsc⟩,hp,hk⟩:=hK r st' hR
 refine⟨u,_,s.st ++ st',F,os ++ os1,rfl,hk,hr'.join hs hFF hp (.inr hsc) hdis,?_,?_⟩
 ·rw[hr.len];exact Uh (Zf hsr hru)
 ·refine⟨he.sys,he.tape,he.output,he.size,fun _ h=>h,he.HP,fun b hb e1 e2=>?_,fun i o hi ho=>D3.append os os1 i o ho⟩
  obtain⟨f1,_,_⟩:=he.other b hb e1 e2
  exact⟨f1,e1,fun o ho=>by rcases List.mem_append.1 ho with h | h;exact e2 o h;exact hoth b hb e1 e2 o h⟩
end Go.Abs

