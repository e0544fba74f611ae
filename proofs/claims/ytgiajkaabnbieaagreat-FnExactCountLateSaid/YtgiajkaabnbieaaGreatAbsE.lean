import Derived.Test.YtgiajkaabnbieaaGreatAbsD
set_option linter.all false
namespace Go.Abs
open Go
def Lr (v:AV):Option (List AV):=
 match v with
 | .agg cs=>if cs.all AV.leaf then some cs else none
 | v=>if v.leaf then some [v] else none
def H0 (P:Program)(e:TypeId):Option (List AV):=
 match P.info? e with
 | some i=>match i.zero with
  | some z=>if (z.cells.toList.map Mu).all AV.leaf&&!z.cells.isEmpty then some (z.cells.toList.map Mu) else none
  | none=>none
 | none=>none
def HW (x:List AV)(off:Nat)(cs:List AV):List AV:=x.take off++cs++x.drop (off+cs.length)
def cJ (P:Program)(e:TypeId)(st:List Row)(K:AV->List Row->Prop):Prop:=
 Fk (H0 P e) λz=>K (.ptr st.length 0 0 0) (st++[⟨0,e,z.length,[z]⟩])
def ja (e:TypeId)(st:List Row)(v:AV)(K:AV->List Row->Prop):Prop:=
 Fk (Lr v) λcs=>cs≠[]/\K (.ptr st.length 0 0 0) (st++[⟨0,e,cs.length,[cs]⟩])
def YG (P:Program)(st:List Row)(t:TypeId)(p v:AV)(K:List Row->Prop):Prop:=
 Fk (DS P t) λti=>match p with
  | .ptr id g i off=>Fk st[id]? λrow=>row.gen=g/\Fk row.xs[i]? λx=>Fk (Lr v) λcs=>
    cs.length=ti.2/\off+cs.length<=row.size/\K (st.set id { row with xs:=row.xs.set i (HW x off cs) })
  | _=>False
def bY (P:Program)(st:List Row)(t:TypeId)(l c:AV)(K:AV->List Row->Prop):Prop:=
 Fk (Cj P t) λei=>match l,c with
  | .int _ n,.int _ m=>n=m/\0<=n/\n*(ei.bytes:Int)<=281474976710656/\n<=9223372036854775807/\K (.own st.length 0 n.toNat) (st++[⟨0,ei.e,ei.size,List.replicate n.toNat ei.zero⟩])
  | _,_=>False
def YR (st:List Row)(x:AV)(K:List (List AV)->Prop):Prop:=
 match x with
 | .sl ys=>K ys
 | .zc=>K []
 | .own id g n=>Fk st[id]? λrow=>row.gen=g/\(∀y∈row.xs,∀c∈y,c.leaf=true)/\n=row.xs.length/\K (row.xs.take n)
 | _=>False
def Vu (P:Program)(st:List Row)(t:TypeId)(d x:AV)(K:AV->List Row->Prop):Prop:=
 Fk (Cj P t) λei=>YR st x λys=>(∀y∈ys,y.length=ei.size)/\match d with
  | .zc=>ys.length*ei.bytes<=140737488355328/\ys.length<=9223372036854775807/\K (.own st.length 0 ys.length) (st++[⟨0,ei.e,ei.size,ys⟩])
  | .own id g n=>Fk st[id]? λrow=>row.gen=g/\n=row.xs.length/\row.elem=ei.e/\row.size=ei.size/\(n+ys.length)*ei.bytes<=140737488355328/\n+ys.length<=9223372036854775807/\
    K (.own id (g+1) (n+ys.length)) (st.set id { row with gen:=g+1,xs:=row.xs.take n++ys })
  | _=>False
variable {P : Program} {F : Nat -> Prop} {os : List Own} {s : St} {a : Act} {w : World} {k : Nat}
def HG (P:Program)(k:Nat)(F:Nat->Prop)(os:List Own)(s:St)(a:Act)(w:World)(OZ:Sem Value)(K:AV->List Row->Prop):Prop:=
 ∃v st' u w' os',K v st'/\OZ.run P w=.ok u w'/\Rel F os' { s with st:=st' } a w'/\Ae F w' os' v u/\Ext F os w F os' w' k
theorem Rel.len (hr:Rel F os s a w):s.st.length=os.length:=by rw[<- hr.st];simp
theorem Z7 (hr:Rel F os s a w){w':World}{o:Own}(hb:o.DM=some w.heap.size)(hx:0<o.row.xs.length)(hg:o.row.gen=0):Ae F w' (os++[o]) (.ptr s.st.length 0 0 0) (.pointer (some ⟨w.heap.size,0,none⟩)):=by
 simp only[Ae];exact⟨o,by rw[hr.len];simp,by omega,⟨_,rfl⟩,λ_=>⟨hx,mV _,_,hb,by simp⟩⟩
theorem P6 {v:AV}{u:Value}{cs:List AV}(h:Lr v=some cs)(hv:Ae F w os v u):Ba F w os cs u.cells.toList/\(∀c∈cs,c.leaf=true):=by
 cases v with
 | agg xs=>
  simp only[Lr]at h;split at h<;>simp only[mE,reduceCtorEq]at h;subst h;rename_i hl;simp only[Ae]at hv;obtain⟨us,rfl,hus⟩:=hv;exact⟨by simpa [Value.cells] using hus,λc hc=>mL.1 hl c hc⟩
 | _=>
  simp only[Lr]at h;split at h<;>simp only[mE,reduceCtorEq]at h;subst h;rename_i hl;refine⟨?_,by simpa using hl⟩;have h1:=PI hl hv;have:u.cells.toList=[u]:=by cases u<;>simp_all [Value.cells,Value.oneCell']
  rw[this];simp only[Ba];exact⟨u,[],rfl,hv,rfl⟩
theorem Wd (hr:Rel F os s a w){e:TypeId}{v:Value}{cs:List AV}(hl:Ba F w os cs v.cells.toList)(ri :∀c∈cs,c.leaf=true)(rV:cs≠[]){K:AV->List Row->Prop}
  (hk:K (.ptr s.st.length 0 0 0) (s.st++[⟨0,e,cs.length,[cs]⟩])):HG P k F os s a w (do pure (.pointer (some (← newVar e v)))) K:=by
 have hlen:=BJ hl;simp only[nX]at hlen;have ru:0<cs.length:=pX.2 rV;have:=hr.Qb (k:=k) (.inl rfl) (cur:=v.cells) (e:=e) (size:=cs.length) (cap:=1) (xs:=[cs]) ru (by simpa using ri) (by simpa using hlen) (by simp) (by simp[maxLen]) (λi x hx j c hc=>by
  cases i with
  | zero=>
   simp only[me,mE]at hx;subst hx;obtain⟨u,h1,h2⟩:=CD hl j c hc;exact⟨u,by simpa using h1,h2⟩
  | succ i=>simp at hx)
 refine⟨_,_,.pointer (some ⟨w.heap.size,0,none⟩),_,_,hk,?_,this.1,Z7 hr rfl (by simp) rfl,this.2.1⟩;simp[newVar,newRow]
theorem gj {e:TypeId}{v:AV}{u:Value}{K:AV->List Row->Prop}(hr:Rel F os s a w)(h:ja e s.st v K)(hv:Ae F w os v u):HG P k F os s a w (Instr.box e u) K:=by
 obtain⟨cs,sQ,rV,hk⟩:=Ax h;obtain⟨h1,h2⟩:=P6 sQ hv;exact Wd hr h1 h2 rV hk
theorem UR {e:TypeId}{z:List AV}(h:H0 P e=some z):∃i v,P.info? e=some i/\i.zero=some v/\z=v.cells.toList.map Mu/\(∀c∈z,c.leaf=true)/\z≠[]:=by
 unfold H0 at h;split at h<;>try (cases h;done)
 rename_i i hi;split at h<;>try (cases h;done)
 rename_i v hv;split at h<;>try (cases h;done)
 rename_i hc;simp only[mQ,oo,Array.isEmpty_eq_false_iff]at hc;simp only[mE]at h;subst h;refine⟨i,v,hi,hv,rfl,λc hm=>mL.1 hc.1 c hm,?_⟩;simpa using hc.2
theorem bn {e:TypeId}{K:AV->List Row->Prop}(hr:Rel F os s a w)(h:cJ P e s.st K):HG P k F os s a w (Instr.alloc e true (.tuple #[])) K:=by
 obtain⟨z,hz,hk⟩:=Ax h;obtain⟨i,v,hi,hv,rfl,hl,rV⟩:=UR hz;obtain⟨x,st',u,w',os',h1,h2,h3⟩:=Wd (P:=P) (k:=k) (v:=v) hr (O3 F w os _) hl rV hk;refine⟨x,st',u,w',os',h1,?_,h3⟩;have hz':(zeroValue e).run P w=.ok v w:=by simp[zeroValue,typeInfo,hi,hv]
 simpa [Instr.alloc,hz'] using h2
theorem Vi {x cs:List AV}{off n:Nat}(hx:x.length=n)(h:off+cs.length<=n):(HW x off cs).length=n:=by
 simp[HW];omega
theorem P0 (x cs:List AV)(off j:Nat)(hoff:off<=x.length):(HW x off cs)[j]?=if j<off then x[j]? else if j<off+cs.length then cs[j-off]? else x[j]?:=by
 unfold HW;by_cases h1:j<off
 ·rw[mI h1,nD,mM (by simp;omega),mi,mI h1]
 ·rw[mJ h1];by_cases h2:j<off+cs.length
  ·rw[mI h2,mM (by simp;omega),mP (by simp;omega)];simp[nz hoff]
  ·rw[mJ h2,mP (by simp;omega),nP];congr 1;simp[nz hoff];omega
theorem MK {cur:Array Value}{us:List Value}{p j:Nat}(h:p+us.length<=cur.size):
  ((cur.toList.take p++us++cur.toList.drop (p+us.length)).toArray)[j]?=if j<p then cur[j]? else if j<p+us.length then us[j-p]? else cur[j]?:=by
 simp only[pN];by_cases h1:j<p
 ·rw[mI h1,nD,mM (by simp;omega),mi,mI h1];simp
 ·rw[mJ h1];by_cases h2:j<p+us.length
  ·rw[mI h2,mM (by simp;omega),mP (by simp;omega)];congr 1;simp;omega
  ·rw[mJ h2,mP (by simp;omega),nP];simp only[ml,nT,nX,na];congr 1;omega
theorem bL {t:TypeId}{p v:AV}{up uv:Value}{K:List Row->Prop}(hr:Rel F os s a w)(h:YG P s.st t p v K)(hp:Ae F w os p up)(hv:Ae F w os v uv):
  ∃st' w' os',K st'/\(Instr.storeAt t up uv).run P w=.ok () w'/\Rel F os' { s with st:=st' } a w'/\Ext F os w F os' w' k:=by
 obtain⟨ti,ht,h⟩:=Ax h;obtain⟨d,inf,hud,hi,_,e2⟩:=Jl ht;cases p with
 | ptr id g i off=>
  obtain⟨row,qo,hg,h0⟩:=Ax h;obtain⟨x,hx,h1⟩:=Ax h0;obtain⟨cs,sQ,hlen,uz,hk⟩:=Ax h1;obtain⟨o,ho,rfl⟩:=hr.row qo;simp only[Ae]at hp;obtain⟨o',rW,tV,_,hp⟩:=hp;rw[ho]at rW;cases rW;obtain⟨_,_,b,hb,rfl⟩:=hp hg;obtain⟨uS,ri⟩:=P6 sQ hv;have qu:=hr.rows id o ho;obtain⟨xG,cur,rE,rP,hle,sb,rF⟩:=qu.some b hb;have tM:i<o.row.xs.length:=(mC.1 hx).1;have tc:=BJ uS;have hxl:=(qu.lens x (mB hx)).1;have hbound:i*o.row.size+off+uv.cells.toList.length<=cur.size:=by
   rw[tc,rP];have:(i+1)*o.row.size<=o.cap*o.row.size:=nE _ (by omega);rw[nJ]at this;omega
  have xW:∀u∈uv.cells.toList,u.oneCell'=true:=λu hu=>by
   obtain⟨j,hj⟩:=ma.1 hu;have uG:j<cs.length:=by rw[<- tc];exact (mC.1 hj).1
   obtain⟨u',sa,sx⟩:=CD uS j cs[j] (mH uG);rw[hj]at sa;cases sa;exact PI (ri _ (ob uG)) sx
  have rH:=run_storeCells_at P b (i*o.row.size+off) o.row.elem uv.cells.toList 0 cur w rE (by simpa using hbound) xW;simp only[oc]at rH;have si:=hr.Ok (k:=k) (o':={ o with row:={ o.row with xs:=o.row.xs.set i (HW x off cs) } }) ho (w':=w.setRow b (cur.toList.take (i*o.row.size+off)++uv.cells.toList++cur.toList.drop (i*o.row.size+off+uv.cells.toList.length)).toArray)
   (by rw[hb];exact G7.setRow _ _ _) (mS _) rfl (λ_=>⟨rfl,rfl,by simp⟩) (λg hg=>.inl hg) (λrC=>by
    have hdp:Ko (w.setRow b (cur.toList.take (i*o.row.size+off)++uv.cells.toList++cur.toList.drop (i*o.row.size+off+uv.cells.toList.length)).toArray) { o with row:={ o.row with xs:=o.row.xs.set i (HW x off cs) } }:=by
     obtain⟨D,d1,d2,d3⟩:=qu.deep;refine⟨D,d1,d2,λb' rZ sB el l rX i' y j e s' ys hy hc=>?_⟩;simp only at rZ hy⊢;rw[hb]at rZ;cases rZ;rw[setRow_heap w b cur _ _ _ rE]at rX;cases rX;have hold:∃y0,o.row.xs[i']?=some y0/\y0[j]?=some (.dv e s' ys)/\(i'≠i∨j<off∨off+cs.length<=j):=by
      by_cases uT:i'=i
      ·subst uT;rw[mN tM,mE]at hy;subst hy;rw[P0 _ _ _ _ (by omega)]at hc;by_cases vS:j<off
       ·rw[mI vS]at hc;exact⟨x,hx,hc,.inr (.inl vS)⟩
       ·rw[mJ vS]at hc;by_cases vA:j<off+cs.length
        ·rw[mI vA]at hc;have:=ri _ (mB hc);simp[AV.leaf]at this
        ·rw[mJ vA]at hc;exact⟨x,hx,hc,.inr (.inr (by omega))⟩
      ·rw[mT (nm uT)]at hy;exact⟨y,hy,hc,.inl uT⟩
     obtain⟨y0,yQ,tK,rV⟩:=hold;obtain⟨u,q1,q2⟩:=d3 b hb cur _ _ rE i' y0 j e s' ys yQ tK;have uG:j<o.row.size:=by rw[<- (qu.lens y0 (mB yQ)).1];exact (mC.1 tK).1
     refine⟨u,?_,JX (λ_ h=>h) (λc vB=>setRow_other w b c _ λe=>?_) _ u q2⟩
     ·rw[MK hbound,tc];rcases ng i' i with rJ|uT|hgt
      ·have:(i'+1)*o.row.size<=i*o.row.size:=nE _ rJ;rw[nJ]at this;rw[mI (by omega)];exact q1
      ·subst uT;rcases rV with rV|rV|rV
       ·exact absurd rfl rV
       ·rw[mI (by omega)];exact q1
       ·rw[mJ (by omega),mJ (by omega)];exact q1
      ·have:(i+1)*o.row.size<=i'*o.row.size:=nE _ hgt;rw[nJ]at this;rw[mJ (by omega),mJ (by omega)];exact q1
     ·subst e;exact (qu.mo _ (d1 _ _ _ vB)).2.2 hb
    refine⟨qu.pos,λy hy=>?_,(λhn=>by rw[hb]at hn;cases hn),λb' rZ=>?_,λg hg=>⟨(qu.mo g hg).1,by simpa using (qu.mo g hg).2.1,(qu.mo g hg).2.2⟩,hdp⟩
    ·rcases nW hy with hy|rfl
     ·exact qu.lens y hy
     ·refine⟨Vi hxl (by simpa using uz),λc hc=>?_⟩;unfold HW at hc;simp only[my]at hc;rcases hc with (hc|hc)|hc
      ·exact (qu.lens x (mB hx)).2 c (ns hc)
      ·exact Dr (ri c hc)
      ·exact (qu.lens x (mB hx)).2 c (oD hc)
    ·rw[hb]at rZ;cases rZ;refine⟨xG,_,setRow_heap w b cur _ _ _ rE,?_,by simpa using hle,sb,λi' y hy j c hc=>?_⟩
     ·simp only[pL,ml,nT,pQ,nX] at *;omega
     ·simp only at hy⊢;rw[MK hbound];by_cases uT:i'=i
      ·subst uT;rw[mN tM,mE]at hy;subst hy;rw[P0 _ _ _ _ (by omega)]at hc;by_cases vS:j<off
       ·rw[mI vS]at hc;obtain⟨u,h1,h2⟩:=rF _ _ hx j c hc;exact⟨u,by rw[mI (by omega)];exact h1,rC _ _ h2⟩
       ·rw[mJ vS]at hc;by_cases vA:j<off+cs.length
        ·rw[mI vA]at hc;obtain⟨u,h1,h2⟩:=CD uS _ _ hc;refine⟨u,?_,rC _ _ h2⟩;rw[mJ (by omega),mI (by rw[tc];omega),<- h1];congr 1;omega
        ·rw[mJ vA]at hc;obtain⟨u,h1,h2⟩:=rF _ _ hx j c hc;exact⟨u,by rw[mJ (by omega),mJ (by rw[tc];omega)];exact h1,rC _ _ h2⟩
      ·rw[mT (nm uT)]at hy;obtain⟨u,h1,h2⟩:=rF _ _ hy j c hc;have uG:j<o.row.size:=by rw[<- (qu.lens y (mB hy)).1];exact (mC.1 hc).1
       refine⟨u,?_,rC _ _ h2⟩;rcases Nat.lt_or_gt_of_ne uT with rJ|hgt
       ·have:(i'+1)*o.row.size<=i*o.row.size:=nE _ rJ;rw[nJ]at this;rw[mI (by omega)];exact h1
       ·have:(i+1)*o.row.size<=i'*o.row.size:=nE _ hgt;rw[nJ]at this;rw[mJ (by omega),mJ (by rw[tc];omega)];exact h1)
  refine⟨_,_,_,hk,?_,si.1,si.2.1⟩;have hszt:(sizeOf t).run P w=.ok ti.2 w:=by simp[sizeOf,typeInfo,hi,e2]
  have:uv.cells.size=ti.2:=by rw[<- hlen,<- tc];simp
  simp[Instr.storeAt,Instr.sureAddr,storeVar,hszt,this,rH]
 | _=>exact h.elim
theorem XY {t:TypeId}{l c:AV}{ul uc:Value}{K:AV->List Row->Prop}(hr:Rel F os s a w)(h:bY P s.st t l c K)(hl:Ae F w os l ul)(hc:Ae F w os c uc):HG P k F os s a w (Instr.makeSlice t ul uc) K:=by
 obtain⟨ei,he,h⟩:=Ax h;obtain⟨inf,z,hu,hi,hz,sq,ru,rP,hby,hzero,hzl⟩:=IY he;cases l with
 | int kl n=>
  cases c with
  | int kc m=>
   obtain⟨rfl,h0,hb,hm,hk⟩:=h;simp only[Ae]at hl hc;subst hl;subst hc;obtain⟨N,rfl⟩:=nU h0;simp only[nj]at hk;have rO:=run_make (P:=P) w t ei.e inf z hu hi hz kl kc N N (by omega) (pU _) (by rw[<- hby,Int.mul_comm];omega) (by omega);simp only[nj]at rO;have wT:ei.zero.length=ei.size:=by rw[hzero,rP,<- sq];simp
   have:=hr.Qb (k:=k) (.inl rfl) (cur:=madeCells z.cells (N*inf.size)) (e:=ei.e) (size:=ei.size) (cap:=N) (xs:=List.replicate N ei.zero) (by omega)
    (λx hx=>by rw[oT]at hx;rw[hx.2];exact⟨wT,hzl⟩) (by rw[size_madeCells,rP]) (by simp) (by simp[maxLen];omega) (λi x hx j c hc=>by
     rw[List.getElem?_replicate]at hx;split at hx<;>simp only[mE,reduceCtorEq]at hx;subst hx;rename_i hiN;have uG:j<ei.size:=by rw[<- wT];exact (mC.1 hc).1
     have vA:j<z.cells.size:=by omega
     refine⟨z.cells[j],?_,?_⟩
     ·have rJ:i*ei.size+j<N*inf.size:=by
       have:(i+1)*ei.size<=N*ei.size:=nE _ hiN;rw[nJ]at this;rw[<- rP];omega
      have tw:(i*ei.size+j) % z.cells.size=j:=by rw[sq,<- rP,pY,pz];exact pS uG
      simp[madeCells,rJ,tw,vA]
     ·rw[hzero]at hc;simp only[mG,na,nM vA,nC,mE]at hc;subst hc;exact Kk F w os _)
   refine⟨_,_,_,_,_,hk,rO,this.1,?_,this.2.1⟩;simp only[Ae];refine⟨⟨⟨0,ei.e,ei.size,List.replicate N ei.zero⟩,some w.heap.size,N,Fj⟩,by rw[hr.len];simp,by simp,⟨_,_,_,rfl⟩,λ_=>⟨by simp,.inr ⟨_,rfl,by simp⟩⟩⟩
  | _=>exact h.elim
 | _=>cases c<;>exact h.elim
structure Src (F:Nat->Prop) (w:World) (os:List Own) (u:Value) (ys:List (List AV)) (size:Nat):Prop where
 shape :∃ad c,u=.slice ad ys.length c/\(ys=[]∨∃b o,ad=some ⟨b,o,none⟩/\∀(i:Nat) y,ys[i]?=some y->OV F w os b (o+i*size) y)
theorem bf {x:AV}{u:Value}{size:Nat}{K:List (List AV)->Prop}(hr:Rel F os s a w)(h:YR s.st x λys=>(∀y∈ys,y.length=size)/\K ys)(hx:Ae F w os x u):∃ys,K ys/\(∀y∈ys,y.length=size)/\(ys=[]∨∀y∈ys,∀c∈y,c.leaf=true)/\Src F w os u ys size:=by
 cases x with
 | sl ys=>
  obtain⟨rP,hk⟩:=h;simp only[Ae]at hx;obtain⟨ad,cap,rfl,_,rV⟩:=hx;by_cases he:ys=[]
  ·exact⟨ys,hk,rP,.inl he,⟨ad,cap,rfl,.inl he⟩⟩
  ·obtain⟨b,o,sz,rfl,hb,hss,sM⟩:=rV he;refine⟨ys,hk,rP,.inr λy hy c hc=>?_,⟨_,cap,rfl,?_⟩⟩
   ·obtain⟨i,hi⟩:=ma.1 hy;obtain⟨j,hj⟩:=ma.1 hc;obtain⟨_,_,h2,_⟩:=OA (Kn hss sM i y hi) j c hj;exact h2
   have:sz=size:=by
    obtain⟨y,hy⟩:=List.exists_mem_of_ne_nil ys he;rw[<- hss y hy,rP y hy]
   subst this;exact .inr ⟨b,o,rfl,λi y hy=>Lu (Kn hss sM i y hy)⟩
 | zc=>
  obtain⟨rP,hk⟩:=h;simp only[Ae]at hx;obtain⟨ad,rfl⟩:=hx;exact⟨[],hk,by simp,.inl rfl,⟨ad,0,rfl,.inl rfl⟩⟩
 | own id g n=>
  obtain⟨row,qo,hg,td,xH,rP,hk⟩:=Ax h;obtain⟨o,ho,rfl⟩:=hr.row qo;simp only[Ae]at hx;obtain⟨o',rW,tV,_,hx⟩:=hx;rw[ho]at rW;cases rW;obtain⟨hle,hx⟩:=hx hg;simp only[Lb xH]at hx;refine⟨_,hk,rP,.inr (λy hy=>td y (ns hy)),?_⟩;have hlen:(o.row.xs.take n).length=n:=by simp;omega
  rcases hx with ⟨hb,ad,rfl⟩|⟨b,hb,rfl⟩
  ·have:=((hr.rows id o ho).none hb).1;exact⟨ad,0,by rw[hlen],.inl (by rw[this];simp)⟩
  ·refine⟨_,o.cap,by rw[hlen],.inr ⟨b,0,rfl,λi y hy=>?_⟩⟩;have yQ:=hy;rw[mi]at hy;split at hy
   ·have h1:=hr.T8 ho hb hy;have:o.row.size=size:=by
     rw[<- rP y (mB yQ)];exact (((hr.rows id o ho).lens y (mB hy)).1).symm
    rw[this]at h1;simpa using h1
   ·cases hy
 | _=>exact h.elim
theorem Xe {b o size:Nat}{ys:List (List AV)}(rP :∀y∈ys,y.length=size)(h :∀(i:Nat) y,ys[i]?=some y->OV F w os b (o+i*size) y):
  ∃us:List Value,us.length=ys.length*size/\(∀(j:Nat) u,us[j]?=some u->w.cell? ((⟨b,o,none⟩:Addr).add j)=some u)/\(∀u∈us,u.oneCell'=true)/\
   ∀(i:Nat) y,ys[i]?=some y->∀(j:Nat) c,y[j]?=some c->∃u,us[i*size+j]?=some u/\c.kept=true/\Ae F w os c u:=by
 have hat:∀j,j<ys.length*size->∃i y c,j=i*size+j % size/\ys[i]?=some y/\y[j % size]?=some c:=λj hj=>by
  have ru:0<size:=Nat.pos_of_ne_zero (by rintro rfl;simp at hj);have hi:j / size<ys.length:=by rw[Nat.div_lt_iff_lt_mul ru];exact hj
  have hjm:j % size<(ys[j / size]).length:=by rw[rP _ (ob hi)];exact Nat.mod_lt _ ru
  exact⟨j / size,ys[j / size],(ys[j / size])[j % size],by rw[pY];exact (Nat.div_add_mod j size).symm,mH hi,mH hjm⟩
 refine⟨(List.range (ys.length*size)).map λj=>(w.cell? ((⟨b,o,none⟩:Addr).add j)).getD undef,by simp,λj u hu=>?_,λu hu=>?_,λi y hy j c hc=>?_⟩
 ·have hj:j<ys.length*size:=by have:=(mC.1 hu).1;simpa using this
  simp only[mG,nb hj,nC,mE]at hu;obtain⟨i,y,c,he,hy,hc⟩:=hat j hj;obtain⟨u',h1,_⟩:=h i y hy _ c hc;rw[Ct,he,<- nx]at hu⊢;rw[h1]at hu⊢;simp only[oK]at hu;rw[hu]
 ·obtain⟨j,hj,rfl⟩:=mU.1 hu;rw[oL]at hj;obtain⟨i,y,c,he,hy,hc⟩:=hat j hj;obtain⟨u',h1,h2,h3⟩:=h i y hy _ c hc;rw[Ct,he,<- nx,h1];exact RY h2 h3
 ·have hi:=(mC.1 hy).1;have uG:j<size:=by rw[<- rP y (mB hy)];exact (mC.1 hc).1
  obtain⟨u,h1,h2,h3⟩:=h i y hy j c hc;have rJ:i*size+j<ys.length*size:=by
   have:(i+1)*size<=ys.length*size:=nE _ hi;rw[nJ]at this;omega
  refine⟨u,?_,h2,h3⟩;simp only[mG,nb rJ,nC,Ct,<- nx,h1,oK]
end Go.Abs
