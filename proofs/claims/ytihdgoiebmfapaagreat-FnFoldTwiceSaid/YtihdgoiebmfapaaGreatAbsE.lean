import Derived.Test.YtihdgoiebmfapaaGreatAbsD
set_option linter.all false
namespace Go.Abs
open Go
def KK (v:AV):Option (List AV):=
 match v with
 | .agg cs=>if cs.all AV.leaf then some cs else none
 | v=>if v.leaf then some [v] else none
def ID (P:Program)(e:TypeId):Option (List AV):=
 match P.info? e with
 | some i=>match i.zero with
  | some z=>if (z.cells.toList.map Mv).all AV.leaf&&!z.cells.isEmpty then some (z.cells.toList.map Mv) else none
  | none=>none
 | none=>none
def G5 (x:List AV)(off:Nat)(cs:List AV):List AV:=x.take off++cs++x.drop (off+cs.length)
def ay (P:Program)(e:TypeId)(st:List Row)(K:AV->List Row->Prop):Prop:=
 Ff (ID P e) λz=>K (.ptr st.length 0 0 0) (st++[⟨0,e,z.length,[z]⟩])
def gA (e:TypeId)(st:List Row)(v:AV)(K:AV->List Row->Prop):Prop:=
 Ff (KK v) λcs=>cs≠[]/\K (.ptr st.length 0 0 0) (st++[⟨0,e,cs.length,[cs]⟩])
def X4 (P:Program)(st:List Row)(t:TypeId)(p v:AV)(K:List Row->Prop):Prop:=
 Ff (D7 P t) λti=>match p with
  | .ptr id g i off=>Ff st[id]? λrow=>row.gen=g/\Ff row.xs[i]? λx=>Ff (KK v) λcs=>
    cs.length=ti.2/\off+cs.length<=row.size/\K (st.set id { row with xs:=row.xs.set i (G5 x off cs) })
  | _=>False
def aS (P:Program)(st:List Row)(t:TypeId)(l c:AV)(K:AV->List Row->Prop):Prop:=
 Ff (D2 P t) λei=>match l,c with
  | .int _ n,.int _ m=>n=m/\0<=n/\n*(ei.bytes:Int)<=281474976710656/\n<=9223372036854775807/\K (.own st.length 0 n.toNat) (st++[⟨0,ei.e,ei.size,List.replicate n.toNat ei.zero⟩])
  | _,_=>False
def Xy (st:List Row)(x:AV)(K:List (List AV)->Prop):Prop:=
 match x with
 | .sl ys=>K ys
 | .zc=>K []
 | .own id g n=>Ff st[id]? λrow=>row.gen=g/\(∀y∈row.xs,∀c∈y,c.leaf=true)/\n=row.xs.length/\K (row.xs.take n)
 | _=>False
def VE (P:Program)(st:List Row)(t:TypeId)(d x:AV)(K:AV->List Row->Prop):Prop:=
 Ff (D2 P t) λei=>Xy st x λys=>(∀y∈ys,y.length=ei.size)/\match d with
  | .zc=>ys.length*ei.bytes<=140737488355328/\ys.length<=9223372036854775807/\K (.own st.length 0 ys.length) (st++[⟨0,ei.e,ei.size,ys⟩])
  | .own id g n=>Ff st[id]? λrow=>row.gen=g/\n=row.xs.length/\row.elem=ei.e/\row.size=ei.size/\(n+ys.length)*ei.bytes<=140737488355328/\n+ys.length<=9223372036854775807/\
    K (.own id (g+1) (n+ys.length)) (st.set id { row with gen:=g+1,xs:=row.xs.take n++ys })
  | _=>False
variable {P : Program} {F : Nat -> Prop} {os : List Own} {s : St} {a : Act} {w : World} {k : Nat}
def Hr (P:Program)(k:Nat)(F:Nat->Prop)(os:List Own)(s:St)(a:Act)(w:World)(sV:Sem Value)(K:AV->List Row->Prop):Prop:=
 ∃v st' u w' os',K v st'/\sV.run P w=.ok u w'/\Rel F os' { s with st:=st' } a w'/\Ae F w' os' v u/\Ext F os w F os' w' k
theorem Rel.len (hr:Rel F os s a w):s.st.length=os.length:=by rw[<- hr.st];simp
theorem YQ (hr:Rel F os s a w){w':World}{o:Own}(hb:o.Fe=some w.heap.size)(hx:0<o.row.xs.length)(hg:o.row.gen=0):Ae F w' (os++[o]) (.ptr s.st.length 0 0 0) (.pointer (some ⟨w.heap.size,0,none⟩)):=by
 simp only[Ae];exact⟨o,by rw[hr.len];simp,by omega,⟨_,rfl⟩,λ_=>⟨hx,kE _,_,hb,by simp⟩⟩
theorem PQ {v:AV}{u:Value}{cs:List AV}(h:KK v=some cs)(hv:Ae F w os v u):Br F w os cs u.cells.toList/\(∀c∈cs,c.leaf=true):=by
 cases v with
 | agg xs=>
  simp only[KK]at h;split at h<;>simp only[jh,reduceCtorEq]at h;subst h;rename_i hl;simp only[Ae]at hv;obtain⟨us,rfl,yB⟩:=hv;exact⟨by simpa [Value.cells] using yB,λc hc=>jq.1 hl c hc⟩
 | _=>
  simp only[KK]at h;split at h<;>simp only[jh,reduceCtorEq]at h;subst h;rename_i hl;refine⟨?_,by simpa using hl⟩;have h1:=OA hl hv;have:u.cells.toList=[u]:=by cases u<;>simp_all [Value.cells,Value.oneCell']
  rw[this];simp only[Br];exact⟨u,[],rfl,hv,rfl⟩
theorem Ve (hr:Rel F os s a w){e:TypeId}{v:Value}{cs:List AV}(hl:Br F w os cs v.cells.toList)(pV :∀c∈cs,c.leaf=true)(pN:cs≠[]){K:AV->List Row->Prop}
  (hk:K (.ptr s.st.length 0 0 0) (s.st++[⟨0,e,cs.length,[cs]⟩])):Hr P k F os s a w (do pure (.pointer (some (← newVar e v)))) K:=by
 have hlen:=BY hl;simp only[ly]at hlen;have pZ:0<cs.length:=nE.2 pN;have:=hr.OQ (k:=k) (.inl rfl) (cur:=v.cells) (e:=e) (size:=cs.length) (cap:=1) (xs:=[cs]) pZ (by simpa using pV) (by simpa using hlen) (by simp) (by simp[maxLen]) (λi x hx j c hc=>by
  cases i with
  | zero=>
   simp only[kK,jh]at hx;subst hx;obtain⟨u,h1,h2⟩:=CN hl j c hc;exact⟨u,by simpa using h1,h2⟩
  | succ i=>simp at hx)
 refine⟨_,_,.pointer (some ⟨w.heap.size,0,none⟩),_,_,hk,?_,this.1,YQ hr rfl (by simp) rfl,this.2.1⟩;simp[newVar,newRow]
theorem dY {e:TypeId}{v:AV}{u:Value}{K:AV->List Row->Prop}(hr:Rel F os s a w)(h:gA e s.st v K)(hv:Ae F w os v u):Hr P k F os s a w (Instr.box e u) K:=by
 obtain⟨cs,qk,pN,hk⟩:=BN h;obtain⟨h1,h2⟩:=PQ qk hv;exact Ve hr h1 h2 pN hk
theorem TS {e:TypeId}{z:List AV}(h:ID P e=some z):∃i v,P.info? e=some i/\i.zero=some v/\z=v.cells.toList.map Mv/\(∀c∈z,c.leaf=true)/\z≠[]:=by
 unfold ID at h;split at h<;>try (cases h;done)
 rename_i i hi;split at h<;>try (cases h;done)
 rename_i v hv;split at h<;>try (cases h;done)
 rename_i hc;simp only[kF,Bool.not_eq_true',Array.isEmpty_eq_false_iff]at hc;simp only[jh]at h;subst h;refine⟨i,v,hi,hv,rfl,λc hm=>jq.1 hc.1 c hm,?_⟩;simpa using hc.2
theorem Z1 {e:TypeId}{K:AV->List Row->Prop}(hr:Rel F os s a w)(h:ay P e s.st K):Hr P k F os s a w (Instr.alloc e true (.tuple #[])) K:=by
 obtain⟨z,hz,hk⟩:=BN h;obtain⟨i,v,hi,hv,rfl,hl,pN⟩:=TS hz;obtain⟨x,st',u,w',os',h1,h2,h3⟩:=Ve (P:=P) (k:=k) (v:=v) hr (OJ F w os _) hl pN hk;refine⟨x,st',u,w',os',h1,?_,h3⟩;have hz':(zeroValue e).run P w=.ok v w:=by simp[zeroValue,typeInfo,hi,hv]
 simpa [Instr.alloc,hz'] using h2
theorem Uz {x cs:List AV}{off n:Nat}(hx:x.length=n)(h:off+cs.length<=n):(G5 x off cs).length=n:=by
 simp[G5];omega
theorem O2 (x cs:List AV)(off j:Nat)(yZ:off<=x.length):(G5 x off cs)[j]?=if j<off then x[j]? else if j<off+cs.length then cs[j-off]? else x[j]?:=by
 unfold G5;by_cases h1:j<off
 ·rw[jm h1,lG,jr (by simp;omega),kL,jm h1]
 ·rw[jn h1];by_cases h2:j<off+cs.length
  ·rw[jm h2,jr (by simp;omega),jt (by simp;omega)];simp[ma yZ]
  ·rw[jn h2,jt (by simp;omega),kW];congr 1;simp[ma yZ];omega
theorem J6 {cur:Array Value}{us:List Value}{p j:Nat}(h:p+us.length<=cur.size):
  ((cur.toList.take p++us++cur.toList.drop (p+us.length)).toArray)[j]?=if j<p then cur[j]? else if j<p+us.length then us[j-p]? else cur[j]?:=by
 simp only[mN];by_cases h1:j<p
 ·rw[jm h1,lG,jr (by simp;omega),kL,jm h1];simp
 ·rw[jn h1];by_cases h2:j<p+us.length
  ·rw[jm h2,jr (by simp;omega),jt (by simp;omega)];congr 1;simp;omega
  ·rw[jn h2,jt (by simp;omega),kW];simp only[kD,lu,ly,lq];congr 1;omega
theorem aW {t:TypeId}{p v:AV}{up uv:Value}{K:List Row->Prop}(hr:Rel F os s a w)(h:X4 P s.st t p v K)(hp:Ae F w os p up)(hv:Ae F w os v uv):
  ∃st' w' os',K st'/\(Instr.storeAt t up uv).run P w=.ok () w'/\Rel F os' { s with st:=st' } a w'/\Ext F os w F os' w' k:=by
 obtain⟨ti,ht,h⟩:=BN h;obtain⟨d,inf,hud,hi,_,e2⟩:=I5 ht;cases p with
 | ptr id g i off=>
  obtain⟨row,oY,hg,h0⟩:=BN h;obtain⟨x,hx,h1⟩:=BN h0;obtain⟨cs,qk,hlen,qN,hk⟩:=BN h1;obtain⟨o,ho,rfl⟩:=hr.row oY;simp only[Ae]at hp;obtain⟨o',pQ,rz,_,hp⟩:=hp;rw[ho]at pQ;cases pQ;obtain⟨_,_,b,hb,rfl⟩:=hp hg;obtain⟨sW,pV⟩:=PQ qk hv;have ob:=hr.rows id o ho;obtain⟨tH,cur,pF,pL,hle,qn,pH⟩:=ob.some b hb;have qG:i<o.row.xs.length:=(jg.1 hx).1;have rS:=BY sW;have hxl:=(ob.lens x (je hx)).1;have hbound:i*o.row.size+off+uv.cells.toList.length<=cur.size:=by
   rw[rS,pL];have:(i+1)*o.row.size<=o.cap*o.row.size:=kS _ (by omega);rw[kP]at this;omega
  have tl:∀u∈uv.cells.toList,u.oneCell'=true:=λu hu=>by
   obtain⟨j,hj⟩:=jz.1 hu;have sF:j<cs.length:=by rw[<- rS];exact (jg.1 hj).1
   obtain⟨u',qV,qF⟩:=CN sW j cs[j] (jl sF);rw[hj]at qV;cases qV;exact OA (pV _ (mH sF)) qF
  have pI:=run_storeCells_at P b (i*o.row.size+off) o.row.elem uv.cells.toList 0 cur w pF (by simpa using hbound) tl;simp only[mA]at pI;have qc:=hr.Oz (k:=k) (o':={ o with row:={ o.row with xs:=o.row.xs.set i (G5 x off cs) } }) ho (w':=w.setRow b (cur.toList.take (i*o.row.size+off)++uv.cells.toList++cur.toList.drop (i*o.row.size+off+uv.cells.toList.length)).toArray)
   (by rw[hb];exact Hb.setRow _ _ _) (jv _) rfl (λ_=>⟨rfl,rfl,by simp⟩) (λg hg=>.inl hg) (λoh=>by
    have yb:KH (w.setRow b (cur.toList.take (i*o.row.size+off)++uv.cells.toList++cur.toList.drop (i*o.row.size+off+uv.cells.toList.length)).toArray) { o with row:={ o.row with xs:=o.row.xs.set i (G5 x off cs) } }:=by
     obtain⟨D,d1,d2,d3⟩:=ob.deep;refine⟨D,d1,d2,λb' pX sG el l pa i' y j e s' ys hy hc=>?_⟩;simp only at pX hy⊢;rw[hb]at pX;cases pX;rw[nS w b cur _ _ _ pF]at pa;cases pa;have hold:∃y0,o.row.xs[i']?=some y0/\y0[j]?=some (.dv e s' ys)/\(i'≠i∨j<off∨off+cs.length<=j):=by
      by_cases uj:i'=i
      ·subst uj;rw[ju qG,jh]at hy;subst hy;rw[O2 _ _ _ _ (by omega)]at hc;by_cases tI:j<off
       ·rw[jm tI]at hc;exact⟨x,hx,hc,.inr (.inl tI)⟩
       ·rw[jn tI]at hc;by_cases tZ:j<off+cs.length
        ·rw[jm tZ]at hc;have:=pV _ (je hc);simp[AV.leaf]at this
        ·rw[jn tZ]at hc;exact⟨x,hx,hc,.inr (.inr (by omega))⟩
      ·rw[kG (lK uj)]at hy;exact⟨y,hy,hc,.inl uj⟩
     obtain⟨y0,vX,qj,pN⟩:=hold;obtain⟨u,q1,q2⟩:=d3 b hb cur _ _ pF i' y0 j e s' ys vX qj;have sF:j<o.row.size:=by rw[<- (ob.lens y0 (je vX)).1];exact (jg.1 qj).1
     refine⟨u,?_,L5 (λ_ h=>h) (λc qW=>setRow_other w b c _ λe=>?_) _ u q2⟩
     ·rw[J6 hbound,rS];rcases lH i' i with pG|uj|hgt
      ·have:(i'+1)*o.row.size<=i*o.row.size:=kS _ pG;rw[kP]at this;rw[jm (by omega)];exact q1
      ·subst uj;rcases pN with pN|pN|pN
       ·exact absurd rfl pN
       ·rw[jm (by omega)];exact q1
       ·rw[jn (by omega),jn (by omega)];exact q1
      ·have:(i+1)*o.row.size<=i'*o.row.size:=kS _ hgt;rw[kP]at this;rw[jn (by omega),jn (by omega)];exact q1
     ·subst e;exact (ob.mo _ (d1 _ _ _ qW)).2.2 hb
    refine⟨ob.pos,λy hy=>?_,(λhn=>by rw[hb]at hn;cases hn),λb' pX=>?_,λg hg=>⟨(ob.mo g hg).1,by simpa using (ob.mo g hg).2.1,(ob.mo g hg).2.2⟩,yb⟩
    ·rcases kp hy with hy|rfl
     ·exact ob.lens y hy
     ·refine⟨Uz hxl (by simpa using qN),λc hc=>?_⟩;unfold G5 at hc;simp only[kJ]at hc;rcases hc with (hc|hc)|hc
      ·exact (ob.lens x (je hx)).2 c (kv hc)
      ·exact Dz (pV c hc)
      ·exact (ob.lens x (je hx)).2 c (lQ hc)
    ·rw[hb]at pX;cases pX;refine⟨tH,_,nS w b cur _ _ _ pF,?_,by simpa using hle,qn,λi' y hy j c hc=>?_⟩
     ·simp only[mO,kD,lu,mI,ly] at *;omega
     ·simp only at hy⊢;rw[J6 hbound];by_cases uj:i'=i
      ·subst uj;rw[ju qG,jh]at hy;subst hy;rw[O2 _ _ _ _ (by omega)]at hc;by_cases tI:j<off
       ·rw[jm tI]at hc;obtain⟨u,h1,h2⟩:=pH _ _ hx j c hc;exact⟨u,by rw[jm (by omega)];exact h1,oh _ _ h2⟩
       ·rw[jn tI]at hc;by_cases tZ:j<off+cs.length
        ·rw[jm tZ]at hc;obtain⟨u,h1,h2⟩:=CN sW _ _ hc;refine⟨u,?_,oh _ _ h2⟩;rw[jn (by omega),jm (by rw[rS];omega),<- h1];congr 1;omega
        ·rw[jn tZ]at hc;obtain⟨u,h1,h2⟩:=pH _ _ hx j c hc;exact⟨u,by rw[jn (by omega),jn (by rw[rS];omega)];exact h1,oh _ _ h2⟩
      ·rw[kG (lK uj)]at hy;obtain⟨u,h1,h2⟩:=pH _ _ hy j c hc;have sF:j<o.row.size:=by rw[<- (ob.lens y (je hy)).1];exact (jg.1 hc).1
       refine⟨u,?_,oh _ _ h2⟩;rcases Nat.lt_or_gt_of_ne uj with pG|hgt
       ·have:(i'+1)*o.row.size<=i*o.row.size:=kS _ pG;rw[kP]at this;rw[jm (by omega)];exact h1
       ·have:(i+1)*o.row.size<=i'*o.row.size:=kS _ hgt;rw[kP]at this;rw[jn (by omega),jn (by rw[rS];omega)];exact h1)
  refine⟨_,_,_,hk,?_,qc.1,qc.2.1⟩;have hszt:(sizeOf t).run P w=.ok ti.2 w:=by simp[sizeOf,typeInfo,hi,e2]
  have:uv.cells.size=ti.2:=by rw[<- hlen,<- rS];simp
  simp[Instr.storeAt,Instr.sureAddr,storeVar,hszt,this,pI]
 | _=>exact h.elim
theorem XI {t:TypeId}{l c:AV}{ul uc:Value}{K:AV->List Row->Prop}(hr:Rel F os s a w)(h:aS P s.st t l c K)(hl:Ae F w os l ul)(hc:Ae F w os c uc):Hr P k F os s a w (Instr.makeSlice t ul uc) K:=by
 obtain⟨ei,he,h⟩:=BN h;obtain⟨inf,z,hu,hi,hz,rQ,pZ,pL,hby,hzero,hzl⟩:=H8 he;cases l with
 | int kl n=>
  cases c with
  | int kc m=>
   obtain⟨rfl,h0,hb,hm,hk⟩:=h;simp only[Ae]at hl hc;subst hl;subst hc;obtain⟨N,rfl⟩:=kZ h0;simp only[lY]at hk;have pK:=run_make (P:=P) w t ei.e inf z hu hi hz kl kc N N (by omega) (Int.le_refl _) (by rw[<- hby,Int.mul_comm];omega) (by omega);simp only[lY]at pK;have yc:ei.zero.length=ei.size:=by rw[hzero,pL,<- rQ];simp
   have:=hr.OQ (k:=k) (.inl rfl) (cur:=madeCells z.cells (N*inf.size)) (e:=ei.e) (size:=ei.size) (cap:=N) (xs:=List.replicate N ei.zero) (by omega)
    (λx hx=>by rw[nM]at hx;rw[hx.2];exact⟨yc,hzl⟩) (by rw[size_madeCells,pL]) (by simp) (by simp[maxLen];omega) (λi x hx j c hc=>by
     rw[List.getElem?_replicate]at hx;split at hx<;>simp only[jh,reduceCtorEq]at hx;subst hx;rename_i hiN;have sF:j<ei.size:=by rw[<- yc];exact (jg.1 hc).1
     have tZ:j<z.cells.size:=by omega
     refine⟨z.cells[j],?_,?_⟩
     ·have pG:i*ei.size+j<N*inf.size:=by
       have:(i+1)*ei.size<=N*ei.size:=kS _ hiN;rw[kP]at this;rw[<- pL];omega
      have sf:(i*ei.size+j) % z.cells.size=j:=by rw[rQ,<- pL,nf,Nat.mul_add_mod];exact mT sF
      simp[madeCells,pG,sf,tZ]
     ·rw[hzero]at hc;simp only[ji,lq,lA tZ,kb,jh]at hc;subst hc;exact Lm F w os _)
   refine⟨_,_,_,_,_,hk,pK,this.1,?_,this.2.1⟩;simp only[Ae];refine⟨⟨⟨0,ei.e,ei.size,List.replicate N ei.zero⟩,some w.heap.size,N,FX⟩,by rw[hr.len];simp,by simp,⟨_,_,_,rfl⟩,λ_=>⟨by simp,.inr ⟨_,rfl,by simp⟩⟩⟩
  | _=>exact h.elim
 | _=>cases c<;>exact h.elim
structure Src (F:Nat->Prop) (w:World) (os:List Own) (u:Value) (ys:List (List AV)) (size:Nat):Prop where
 shape :∃ad c,u=.slice ad ys.length c/\(ys=[]∨∃b o,ad=some ⟨b,o,none⟩/\∀(i:Nat) y,ys[i]?=some y->L7 F w os b (o+i*size) y)
theorem Ud {x:AV}{u:Value}{size:Nat}{K:List (List AV)->Prop}(hr:Rel F os s a w)(h:Xy s.st x λys=>(∀y∈ys,y.length=size)/\K ys)(hx:Ae F w os x u):∃ys,K ys/\(∀y∈ys,y.length=size)/\(ys=[]∨∀y∈ys,∀c∈y,c.leaf=true)/\Src F w os u ys size:=by
 cases x with
 | sl ys=>
  obtain⟨pL,hk⟩:=h;simp only[Ae]at hx;obtain⟨ad,cap,rfl,_,pN⟩:=hx;by_cases he:ys=[]
  ·exact⟨ys,hk,pL,.inl he,⟨ad,cap,rfl,.inl he⟩⟩
  ·obtain⟨b,o,sz,rfl,hb,hss,qJ⟩:=pN he;refine⟨ys,hk,pL,.inr λy hy c hc=>?_,⟨_,cap,rfl,?_⟩⟩
   ·obtain⟨i,hi⟩:=jz.1 hy;obtain⟨j,hj⟩:=jz.1 hc;obtain⟨_,_,h2,_⟩:=Jl (IH hss qJ i y hi) j c hj;exact h2
   have:sz=size:=by
    obtain⟨y,hy⟩:=List.exists_mem_of_ne_nil ys he;rw[<- hss y hy,pL y hy]
   subst this;exact .inr ⟨b,o,rfl,λi y hy=>Kw (IH hss qJ i y hy)⟩
 | zc=>
  obtain⟨pL,hk⟩:=h;simp only[Ae]at hx;obtain⟨ad,rfl⟩:=hx;exact⟨[],hk,by simp,.inl rfl,⟨ad,0,rfl,.inl rfl⟩⟩
 | own id g n=>
  obtain⟨row,oY,hg,pn,vY,pL,hk⟩:=BN h;obtain⟨o,ho,rfl⟩:=hr.row oY;simp only[Ae]at hx;obtain⟨o',pQ,rz,_,hx⟩:=hx;rw[ho]at pQ;cases pQ;obtain⟨hle,hx⟩:=hx hg;simp only[L4 vY]at hx;refine⟨_,hk,pL,.inr (λy hy=>pn y (kv hy)),?_⟩;have hlen:(o.row.xs.take n).length=n:=by simp;omega
  rcases hx with ⟨hb,ad,rfl⟩|⟨b,hb,rfl⟩
  ·have:=((hr.rows id o ho).none hb).1;exact⟨ad,0,by rw[hlen],.inl (by rw[this];simp)⟩
  ·refine⟨_,o.cap,by rw[hlen],.inr ⟨b,0,rfl,λi y hy=>?_⟩⟩;have vX:=hy;rw[kL]at hy;split at hy
   ·have h1:=hr.Np ho hb hy;have:o.row.size=size:=by
     rw[<- pL y (je vX)];exact (((hr.rows id o ho).lens y (je hy)).1).symm
    rw[this]at h1;simpa using h1
   ·cases hy
 | _=>exact h.elim
theorem Pr {b o size:Nat}{ys:List (List AV)}(pL :∀y∈ys,y.length=size)(h :∀(i:Nat) y,ys[i]?=some y->L7 F w os b (o+i*size) y):
  ∃us:List Value,us.length=ys.length*size/\(∀(j:Nat) u,us[j]?=some u->w.cell? ((⟨b,o,none⟩:Addr).add j)=some u)/\(∀u∈us,u.oneCell'=true)/\
   ∀(i:Nat) y,ys[i]?=some y->∀(j:Nat) c,y[j]?=some c->∃u,us[i*size+j]?=some u/\c.kept=true/\Ae F w os c u:=by
 have hat:∀j,j<ys.length*size->∃i y c,j=i*size+j % size/\ys[i]?=some y/\y[j % size]?=some c:=λj hj=>by
  have pZ:0<size:=Nat.pos_of_ne_zero (by rintro rfl;simp at hj);have hi:j / size<ys.length:=by rw[Nat.div_lt_iff_lt_mul pZ];exact hj
  have hjm:j % size<(ys[j / size]).length:=by rw[pL _ (mH hi)];exact Nat.mod_lt _ pZ
  exact⟨j / size,ys[j / size],(ys[j / size])[j % size],by rw[nf];exact (Nat.div_add_mod j size).symm,jl hi,jl hjm⟩
 refine⟨(List.range (ys.length*size)).map λj=>(w.cell? ((⟨b,o,none⟩:Addr).add j)).getD undef,by simp,λj u hu=>?_,λu hu=>?_,λi y hy j c hc=>?_⟩
 ·have hj:j<ys.length*size:=by have:=(jg.1 hu).1;simpa using this
  simp only[ji,lN hj,kb,jh]at hu;obtain⟨i,y,c,he,hy,hc⟩:=hat j hj;obtain⟨u',h1,_⟩:=h i y hy _ c hc;rw[DI,he,<- lS]at hu⊢;rw[h1]at hu⊢;simp only[lg]at hu;rw[hu]
 ·obtain⟨j,hj,rfl⟩:=kC.1 hu;rw[lp]at hj;obtain⟨i,y,c,he,hy,hc⟩:=hat j hj;obtain⟨u',h1,h2,h3⟩:=h i y hy _ c hc;rw[DI,he,<- lS,h1];exact WM h2 h3
 ·have hi:=(jg.1 hy).1;have sF:j<size:=by rw[<- pL y (je hy)];exact (jg.1 hc).1
  obtain⟨u,h1,h2,h3⟩:=h i y hy j c hc;have pG:i*size+j<ys.length*size:=by
   have:(i+1)*size<=ys.length*size:=kS _ hi;rw[kP]at this;omega
  refine⟨u,?_,h2,h3⟩;simp only[ji,lN pG,kb,DI,<- lS,h1,lg]
end Go.Abs
