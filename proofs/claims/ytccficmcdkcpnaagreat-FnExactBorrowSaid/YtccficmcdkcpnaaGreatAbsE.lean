import Derived.Test.YtccficmcdkcpnaaGreatAbsD
set_option linter.all false
namespace Go.Abs
open Go
def Jq (v:AV):Option (List AV):=
 match v with
 | .agg cs=>if cs.all AV.leaf then some cs else none
 | v=>if v.leaf then some [v] else none
def Gz (P:Program)(e:TypeId):Option (List AV):=
 match P.info? e with
 | some i=>match i.zero with
  | some z=>if (z.cells.toList.map Lo).all AV.leaf&&!z.cells.isEmpty then some (z.cells.toList.map Lo) else none
  | none=>none
 | none=>none
def Gf (x:List AV)(off:Nat)(cs:List AV):List AV:=x.take off++cs++x.drop (off+cs.length)
def cD (P:Program)(e:TypeId)(st:List Row)(K:AV->List Row->Prop):Prop:=
 FD (Gz P e) λz=>K (.ptr st.length 0 0 0) (st++[⟨0,e,z.length,[z]⟩])
def jT (e:TypeId)(st:List Row)(v:AV)(K:AV->List Row->Prop):Prop:=
 FD (Jq v) λcs=>cs≠[]/\K (.ptr st.length 0 0 0) (st++[⟨0,e,cs.length,[cs]⟩])
def YC (P:Program)(st:List Row)(t:TypeId)(p v:AV)(K:List Row->Prop):Prop:=
 FD (CF P t) λti=>match p with
  | .ptr id g i off=>FD st[id]? λrow=>row.gen=g/\FD row.xs[i]? λx=>FD (Jq v) λcs=>
    cs.length=ti.2/\off+cs.length<=row.size/\K (st.set id { row with xs:=row.xs.set i (Gf x off cs) })
  | _=>False
def bQ (P:Program)(st:List Row)(t:TypeId)(l c:AV)(K:AV->List Row->Prop):Prop:=
 FD (CH P t) λei=>match l,c with
  | .int _ n,.int _ m=>n=m/\0<=n/\n*(ei.bytes:Int)<=281474976710656/\n<=9223372036854775807/\K (.own st.length 0 n.toNat) (st++[⟨0,ei.e,ei.size,List.replicate n.toNat ei.zero⟩])
  | _,_=>False
def X6 (st:List Row)(x:AV)(K:List (List AV)->Prop):Prop:=
 match x with
 | .sl ys=>K ys
 | .zc=>K []
 | .own id g n=>FD st[id]? λrow=>row.gen=g/\(∀y∈row.xs,∀c∈y,c.leaf=true)/\n=row.xs.length/\K (row.xs.take n)
 | _=>False
def Vf (P:Program)(st:List Row)(t:TypeId)(d x:AV)(K:AV->List Row->Prop):Prop:=
 FD (CH P t) λei=>X6 st x λys=>(∀y∈ys,y.length=ei.size)/\match d with
  | .zc=>ys.length*ei.bytes<=140737488355328/\ys.length<=9223372036854775807/\K (.own st.length 0 ys.length) (st++[⟨0,ei.e,ei.size,ys⟩])
  | .own id g n=>FD st[id]? λrow=>row.gen=g/\n=row.xs.length/\row.elem=ei.e/\row.size=ei.size/\(n+ys.length)*ei.bytes<=140737488355328/\n+ys.length<=9223372036854775807/\
    K (.own id (g+1) (n+ys.length)) (st.set id { row with gen:=g+1,xs:=row.xs.take n++ys })
  | _=>False
variable {P : Program} {F : Nat -> Prop} {os : List Own} {s : St} {a : Act} {w : World} {k : Nat}
def GV (P:Program)(k:Nat)(F:Nat->Prop)(os:List Own)(s:St)(a:Act)(w:World)(NN:Sem Value)(K:AV->List Row->Prop):Prop:=
 ∃v st' u w' os',K v st'/\NN.run P w=.ok u w'/\Rel F os' { s with st:=st' } a w'/\AU F w' os' v u/\Ext F os w F os' w' k
theorem Rel.len (hr:Rel F os s a w):s.st.length=os.length:=by rw[<- hr.st];simp
theorem Ys (hr:Rel F os s a w){w':World}{o:Own}(hb:o.E1=some w.heap.size)(hx:0<o.row.xs.length)(hg:o.row.gen=0):AU F w' (os++[o]) (.ptr s.st.length 0 0 0) (.pointer (some ⟨w.heap.size,0,none⟩)):=by
 simp only[AU];exact⟨o,by rw[hr.len];simp,by omega,⟨_,rfl⟩,λ_=>⟨hx,mi _,_,hb,by simp⟩⟩
theorem PT {v:AV}{u:Value}{cs:List AV}(h:Jq v=some cs)(hv:AU F w os v u):A7 F w os cs u.cells.toList/\(∀c∈cs,c.leaf=true):=by
 cases v with
 | agg xs=>
  simp only[Jq]at h;split at h<;>simp only[mU,reduceCtorEq]at h;subst h;rename_i hl;simp only[AU]at hv;obtain⟨us,rfl,hus⟩:=hv;exact⟨by simpa [Value.cells] using hus,λc hc=>ma.1 hl c hc⟩
 | _=>
  simp only[Jq]at h;split at h<;>simp only[mU,reduceCtorEq]at h;subst h;rename_i hl;refine⟨?_,by simpa using hl⟩;have h1:=OP hl hv;have:u.cells.toList=[u]:=by cases u<;>simp_all [Value.cells,Value.oneCell']
  rw[this];simp only[A7];exact⟨u,[],rfl,hv,rfl⟩
theorem Vx (hr:Rel F os s a w){e:TypeId}{v:Value}{cs:List AV}(hl:A7 F w os cs v.cells.toList)(sL :∀c∈cs,c.leaf=true)(sB:cs≠[]){K:AV->List Row->Prop}
  (hk:K (.ptr s.st.length 0 0 0) (s.st++[⟨0,e,cs.length,[cs]⟩])):GV P k F os s a w (do pure (.pointer (some (← newVar e v)))) K:=by
 have hlen:=A3 hl;simp only[nr]at hlen;have sQ:0<cs.length:=pb.2 sB;have:=hr.QJ (k:=k) (.inl rfl) (cur:=v.cells) (e:=e) (size:=cs.length) (cap:=1) (xs:=[cs]) sQ (by simpa using sL) (by simpa using hlen) (by simp) (by simp[maxLen]) (λi x hx j c hc=>by
  cases i with
  | zero=>
   simp only[mw,mU]at hx;subst hx;obtain⟨u,h1,h2⟩:=BQ hl j c hc;exact⟨u,by simpa using h1,h2⟩
  | succ i=>simp at hx)
 refine⟨_,_,.pointer (some ⟨w.heap.size,0,none⟩),_,_,hk,?_,this.1,Ys hr rfl (by simp) rfl,this.2.1⟩;simp[newVar,newRow]
theorem ea {e:TypeId}{v:AV}{u:Value}{K:AV->List Row->Prop}(hr:Rel F os s a w)(h:jT e s.st v K)(hv:AU F w os v u):GV P k F os s a w (Instr.box e u) K:=by
 obtain⟨cs,tD,sB,hk⟩:=Aw h;obtain⟨h1,h2⟩:=PT tD hv;exact Vx hr h1 h2 sB hk
theorem Tw {e:TypeId}{z:List AV}(h:Gz P e=some z):∃i v,P.info? e=some i/\i.zero=some v/\z=v.cells.toList.map Lo/\(∀c∈z,c.leaf=true)/\z≠[]:=by
 unfold Gz at h;split at h<;>try (cases h;done)
 rename_i i hi;split at h<;>try (cases h;done)
 rename_i v hv;split at h<;>try (cases h;done)
 rename_i hc;simp only[mh,ob,Array.isEmpty_eq_false_iff]at hc;simp only[mU]at h;subst h;refine⟨i,v,hi,hv,rfl,λc hm=>ma.1 hc.1 c hm,?_⟩;simpa using hc.2
theorem aX {e:TypeId}{K:AV->List Row->Prop}(hr:Rel F os s a w)(h:cD P e s.st K):GV P k F os s a w (Instr.alloc e true (.tuple #[])) K:=by
 obtain⟨z,hz,hk⟩:=Aw h;obtain⟨i,v,hi,hv,rfl,hl,sB⟩:=Tw hz;obtain⟨x,st',u,w',os',h1,h2,h3⟩:=Vx (P:=P) (k:=k) (v:=v) hr (OL F w os _) hl sB hk;refine⟨x,st',u,w',os',h1,?_,h3⟩;have hz':(zeroValue e).run P w=.ok v w:=by simp[zeroValue,typeInfo,hi,hv]
 simpa [Instr.alloc,hz'] using h2
theorem Vu {x cs:List AV}{off n:Nat}(hx:x.length=n)(h:off+cs.length<=n):(Gf x off cs).length=n:=by
 simp[Gf];omega
theorem Pk (x cs:List AV)(off j:Nat)(hoff:off<=x.length):(Gf x off cs)[j]?=if j<off then x[j]? else if j<off+cs.length then cs[j-off]? else x[j]?:=by
 unfold Gf;by_cases h1:j<off
 ·rw[me h1,np,mg (by simp;omega),nJ,me h1]
 ·rw[mj h1];by_cases h2:j<off+cs.length
  ·rw[me h2,mg (by simp;omega),mn (by simp;omega)];simp[ou hoff]
  ·rw[mj h2,mn (by simp;omega),ng];congr 1;simp[ou hoff];omega
theorem LB {cur:Array Value}{us:List Value}{p j:Nat}(h:p+us.length<=cur.size):
  ((cur.toList.take p++us++cur.toList.drop (p+us.length)).toArray)[j]?=if j<p then cur[j]? else if j<p+us.length then us[j-p]? else cur[j]?:=by
 simp only[pt];by_cases h1:j<p
 ·rw[me h1,np,mg (by simp;omega),nJ,me h1];simp
 ·rw[mj h1];by_cases h2:j<p+us.length
  ·rw[me h2,mg (by simp;omega),mn (by simp;omega)];congr 1;simp;omega
  ·rw[mj h2,mn (by simp;omega),ng];simp only[nW,nw,nr,nz];congr 1;omega
theorem bD {t:TypeId}{p v:AV}{up uv:Value}{K:List Row->Prop}(hr:Rel F os s a w)(h:YC P s.st t p v K)(hp:AU F w os p up)(hv:AU F w os v uv):
  ∃st' w' os',K st'/\(Instr.storeAt t up uv).run P w=.ok () w'/\Rel F os' { s with st:=st' } a w'/\Ext F os w F os' w' k:=by
 obtain⟨ti,ht,h⟩:=Aw h;obtain⟨d,inf,hud,hi,_,e2⟩:=IE ht;cases p with
 | ptr id g i off=>
  obtain⟨row,rK,hg,h0⟩:=Aw h;obtain⟨x,hx,h1⟩:=Aw h0;obtain⟨cs,tD,hlen,vT,hk⟩:=Aw h1;obtain⟨o,ho,rfl⟩:=hr.row rK;simp only[AU]at hp;obtain⟨o',sA,uK,_,hp⟩:=hp;rw[ho]at sA;cases sA;obtain⟨_,_,b,hb,rfl⟩:=hp hg;obtain⟨vI,sL⟩:=PT tD hv;have rR:=hr.rows id o ho;obtain⟨yi,cur,re,ru,hle,tR,rf⟩:=rR.some b hb;have tj:i<o.row.xs.length:=(mT.1 hx).1;have uS:=A3 vI;have hxl:=(rR.lens x (mS hx)).1;have hbound:i*o.row.size+off+uv.cells.toList.length<=cur.size:=by
   rw[uS,ru];have:(i+1)*o.row.size<=o.cap*o.row.size:=nX _ (by omega);rw[nZ]at this;omega
  have xW:∀u∈uv.cells.toList,u.oneCell'=true:=λu hu=>by
   obtain⟨j,hj⟩:=nC.1 hu;have uf:j<cs.length:=by rw[<- uS];exact (mT.1 hj).1
   obtain⟨u',tZ,sw⟩:=BQ vI j cs[j] (mY uf);rw[hj]at tZ;cases tZ;exact OP (sL _ (pO uf)) sw
  have ra:=run_storeCells_at P b (i*o.row.size+off) o.row.elem uv.cells.toList 0 cur w re (by simpa using hbound) xW;simp only[po]at ra;have tW:=hr.Nl (k:=k) (o':={ o with row:={ o.row with xs:=o.row.xs.set i (Gf x off cs) } }) ho (w':=w.setRow b (cur.toList.take (i*o.row.size+off)++uv.cells.toList++cur.toList.drop (i*o.row.size+off+uv.cells.toList.length)).toArray)
   (by rw[hb];exact GG.setRow _ _ _) (ml _) rfl (λ_=>⟨rfl,rfl,by simp⟩) (λg hg=>.inl hg) (λrZ=>by
    have hdp:KD (w.setRow b (cur.toList.take (i*o.row.size+off)++uv.cells.toList++cur.toList.drop (i*o.row.size+off+uv.cells.toList.length)).toArray) { o with row:={ o.row with xs:=o.row.xs.set i (Gf x off cs) } }:=by
     obtain⟨D,d1,d2,d3⟩:=rR.deep;refine⟨D,d1,d2,λb' sH sh el l sD i' y j e s' ys hy hc=>?_⟩;simp only at sH hy⊢;rw[hb]at sH;cases sH;rw[setRow_heap w b cur _ _ _ re]at sD;cases sD;have hold:∃y0,o.row.xs[i']?=some y0/\y0[j]?=some (.dv e s' ys)/\(i'≠i∨j<off∨off+cs.length<=j):=by
      by_cases wD:i'=i
      ·subst wD;rw[mc tj,mU]at hy;subst hy;rw[Pk _ _ _ _ (by omega)]at hc;by_cases vm:j<off
       ·rw[me vm]at hc;exact⟨x,hx,hc,.inr (.inl vm)⟩
       ·rw[mj vm]at hc;by_cases vU:j<off+cs.length
        ·rw[me vU]at hc;have:=sL _ (mS hc);simp[AV.leaf]at this
        ·rw[mj vU]at hc;exact⟨x,hx,hc,.inr (.inr (by omega))⟩
      ·rw[mq (oT wD)]at hy;exact⟨y,hy,hc,.inl wD⟩
     obtain⟨y0,yC,uF,sB⟩:=hold;obtain⟨u,q1,q2⟩:=d3 b hb cur _ _ re i' y0 j e s' ys yC uF;have uf:j<o.row.size:=by rw[<- (rR.lens y0 (mS yC)).1];exact (mT.1 uF).1
     refine⟨u,?_,KU (λ_ h=>h) (λc vJ=>setRow_other w b c _ λe=>?_) _ u q2⟩
     ·rw[LB hbound,uS];rcases oI i' i with rh|wD|hgt
      ·have:(i'+1)*o.row.size<=i*o.row.size:=nX _ rh;rw[nZ]at this;rw[me (by omega)];exact q1
      ·subst wD;rcases sB with sB|sB|sB
       ·exact absurd rfl sB
       ·rw[me (by omega)];exact q1
       ·rw[mj (by omega),mj (by omega)];exact q1
      ·have:(i+1)*o.row.size<=i'*o.row.size:=nX _ hgt;rw[nZ]at this;rw[mj (by omega),mj (by omega)];exact q1
     ·subst e;exact (rR.mo _ (d1 _ _ _ vJ)).2.2 hb
    refine⟨rR.pos,λy hy=>?_,(λhn=>by rw[hb]at hn;cases hn),λb' sH=>?_,λg hg=>⟨(rR.mo g hg).1,by simpa using (rR.mo g hg).2.1,(rR.mo g hg).2.2⟩,hdp⟩
    ·rcases nd hy with hy|rfl
     ·exact rR.lens y hy
     ·refine⟨Vu hxl (by simpa using vT),λc hc=>?_⟩;unfold Gf at hc;simp only[nM]at hc;rcases hc with (hc|hc)|hc
      ·exact (rR.lens x (mS hx)).2 c (oL hc)
      ·exact Ci (sL c hc)
      ·exact (rR.lens x (mS hx)).2 c (oK hc)
    ·rw[hb]at sH;cases sH;refine⟨yi,_,setRow_heap w b cur _ _ _ re,?_,by simpa using hle,tR,λi' y hy j c hc=>?_⟩
     ·simp only[pn,nW,nw,pz,nr] at *;omega
     ·simp only at hy⊢;rw[LB hbound];by_cases wD:i'=i
      ·subst wD;rw[mc tj,mU]at hy;subst hy;rw[Pk _ _ _ _ (by omega)]at hc;by_cases vm:j<off
       ·rw[me vm]at hc;obtain⟨u,h1,h2⟩:=rf _ _ hx j c hc;exact⟨u,by rw[me (by omega)];exact h1,rZ _ _ h2⟩
       ·rw[mj vm]at hc;by_cases vU:j<off+cs.length
        ·rw[me vU]at hc;obtain⟨u,h1,h2⟩:=BQ vI _ _ hc;refine⟨u,?_,rZ _ _ h2⟩;rw[mj (by omega),me (by rw[uS];omega),<- h1];congr 1;omega
        ·rw[mj vU]at hc;obtain⟨u,h1,h2⟩:=rf _ _ hx j c hc;exact⟨u,by rw[mj (by omega),mj (by rw[uS];omega)];exact h1,rZ _ _ h2⟩
      ·rw[mq (oT wD)]at hy;obtain⟨u,h1,h2⟩:=rf _ _ hy j c hc;have uf:j<o.row.size:=by rw[<- (rR.lens y (mS hy)).1];exact (mT.1 hc).1
       refine⟨u,?_,rZ _ _ h2⟩;rcases Nat.lt_or_gt_of_ne wD with rh|hgt
       ·have:(i'+1)*o.row.size<=i*o.row.size:=nX _ rh;rw[nZ]at this;rw[me (by omega)];exact h1
       ·have:(i+1)*o.row.size<=i'*o.row.size:=nX _ hgt;rw[nZ]at this;rw[mj (by omega),mj (by rw[uS];omega)];exact h1)
  refine⟨_,_,_,hk,?_,tW.1,tW.2.1⟩;have hszt:(sizeOf t).run P w=.ok ti.2 w:=by simp[sizeOf,typeInfo,hi,e2]
  have:uv.cells.size=ti.2:=by rw[<- hlen,<- uS];simp
  simp[Instr.storeAt,Instr.sureAddr,storeVar,hszt,this,ra]
 | _=>exact h.elim
theorem Ws {t:TypeId}{l c:AV}{ul uc:Value}{K:AV->List Row->Prop}(hr:Rel F os s a w)(h:bQ P s.st t l c K)(hl:AU F w os l ul)(hc:AU F w os c uc):GV P k F os s a w (Instr.makeSlice t ul uc) K:=by
 obtain⟨ei,he,h⟩:=Aw h;obtain⟨inf,z,hu,hi,hz,ta,sQ,ru,hby,hzero,hzl⟩:=HS he;cases l with
 | int kl n=>
  cases c with
  | int kc m=>
   obtain⟨rfl,h0,hb,hm,hk⟩:=h;simp only[AU]at hl hc;subst hl;subst hc;obtain⟨N,rfl⟩:=nm h0;simp only[oJ]at hk;have rm:=run_make (P:=P) w t ei.e inf z hu hi hz kl kc N N (by omega) (qG _) (by rw[<- hby,Int.mul_comm];omega) (by omega);simp only[oJ]at rm;have we:ei.zero.length=ei.size:=by rw[hzero,ru,<- ta];simp
   have:=hr.QJ (k:=k) (.inl rfl) (cur:=madeCells z.cells (N*inf.size)) (e:=ei.e) (size:=ei.size) (cap:=N) (xs:=List.replicate N ei.zero) (by omega)
    (λx hx=>by rw[pD]at hx;rw[hx.2];exact⟨we,hzl⟩) (by rw[size_madeCells,ru]) (by simp) (by simp[maxLen];omega) (λi x hx j c hc=>by
     rw[List.getElem?_replicate]at hx;split at hx<;>simp only[mU,reduceCtorEq]at hx;subst hx;rename_i hiN;have uf:j<ei.size:=by rw[<- we];exact (mT.1 hc).1
     have vU:j<z.cells.size:=by omega
     refine⟨z.cells[j],?_,?_⟩
     ·have rh:i*ei.size+j<N*inf.size:=by
       have:(i+1)*ei.size<=N*ei.size:=nX _ hiN;rw[nZ]at this;rw[<- ru];omega
      have uq:(i*ei.size+j) % z.cells.size=j:=by rw[ta,<- ru,qJ,qc];exact qB uf
      simp[madeCells,rh,uq,vU]
     ·rw[hzero]at hc;simp only[mX,nz,na vU,nS,mU]at hc;subst hc;exact Jr F w os _)
   refine⟨_,_,_,_,_,hk,rm,this.1,?_,this.2.1⟩;simp only[AU];refine⟨⟨⟨0,ei.e,ei.size,List.replicate N ei.zero⟩,some w.heap.size,N,FI⟩,by rw[hr.len];simp,by simp,⟨_,_,_,rfl⟩,λ_=>⟨by simp,.inr ⟨_,rfl,by simp⟩⟩⟩
  | _=>exact h.elim
 | _=>cases c<;>exact h.elim
structure Src (F:Nat->Prop) (w:World) (os:List Own) (u:Value) (ys:List (List AV)) (size:Nat):Prop where
 shape :∃ad c,u=.slice ad ys.length c/\(ys=[]∨∃b o,ad=some ⟨b,o,none⟩/\∀(i:Nat) y,ys[i]?=some y->Nn F w os b (o+i*size) y)
theorem aL {x:AV}{u:Value}{size:Nat}{K:List (List AV)->Prop}(hr:Rel F os s a w)(h:X6 s.st x λys=>(∀y∈ys,y.length=size)/\K ys)(hx:AU F w os x u):∃ys,K ys/\(∀y∈ys,y.length=size)/\(ys=[]∨∀y∈ys,∀c∈y,c.leaf=true)/\Src F w os u ys size:=by
 cases x with
 | sl ys=>
  obtain⟨ru,hk⟩:=h;simp only[AU]at hx;obtain⟨ad,cap,rfl,_,sB⟩:=hx;by_cases he:ys=[]
  ·exact⟨ys,hk,ru,.inl he,⟨ad,cap,rfl,.inl he⟩⟩
  ·obtain⟨b,o,sz,rfl,hb,hss,sv⟩:=sB he;refine⟨ys,hk,ru,.inr λy hy c hc=>?_,⟨_,cap,rfl,?_⟩⟩
   ·obtain⟨i,hi⟩:=nC.1 hy;obtain⟨j,hj⟩:=nC.1 hc;obtain⟨_,_,h2,_⟩:=Mx (KG hss sv i y hi) j c hj;exact h2
   have:sz=size:=by
    obtain⟨y,hy⟩:=List.exists_mem_of_ne_nil ys he;rw[<- hss y hy,ru y hy]
   subst this;exact .inr ⟨b,o,rfl,λi y hy=>Kq (KG hss sv i y hy)⟩
 | zc=>
  obtain⟨ru,hk⟩:=h;simp only[AU]at hx;obtain⟨ad,rfl⟩:=hx;exact⟨[],hk,by simp,.inl rfl,⟨ad,0,rfl,.inl rfl⟩⟩
 | own id g n=>
  obtain⟨row,rK,hg,uP,xM,ru,hk⟩:=Aw h;obtain⟨o,ho,rfl⟩:=hr.row rK;simp only[AU]at hx;obtain⟨o',sA,uK,_,hx⟩:=hx;rw[ho]at sA;cases sA;obtain⟨hle,hx⟩:=hx hg;simp only[Lv xM]at hx;refine⟨_,hk,ru,.inr (λy hy=>uP y (oL hy)),?_⟩;have hlen:(o.row.xs.take n).length=n:=by simp;omega
  rcases hx with ⟨hb,ad,rfl⟩|⟨b,hb,rfl⟩
  ·have:=((hr.rows id o ho).none hb).1;exact⟨ad,0,by rw[hlen],.inl (by rw[this];simp)⟩
  ·refine⟨_,o.cap,by rw[hlen],.inr ⟨b,0,rfl,λi y hy=>?_⟩⟩;have yC:=hy;rw[nJ]at hy;split at hy
   ·have h1:=hr.Tb ho hb hy;have:o.row.size=size:=by
     rw[<- ru y (mS yC)];exact (((hr.rows id o ho).lens y (mS hy)).1).symm
    rw[this]at h1;simpa using h1
   ·cases hy
 | _=>exact h.elim
theorem XR {b o size:Nat}{ys:List (List AV)}(ru :∀y∈ys,y.length=size)(h :∀(i:Nat) y,ys[i]?=some y->Nn F w os b (o+i*size) y):
  ∃us:List Value,us.length=ys.length*size/\(∀(j:Nat) u,us[j]?=some u->w.cell? ((⟨b,o,none⟩:Addr).add j)=some u)/\(∀u∈us,u.oneCell'=true)/\
   ∀(i:Nat) y,ys[i]?=some y->∀(j:Nat) c,y[j]?=some c->∃u,us[i*size+j]?=some u/\c.kept=true/\AU F w os c u:=by
 have hat:∀j,j<ys.length*size->∃i y c,j=i*size+j % size/\ys[i]?=some y/\y[j % size]?=some c:=λj hj=>by
  have sQ:0<size:=Nat.pos_of_ne_zero (by rintro rfl;simp at hj);have hi:j / size<ys.length:=by rw[Nat.div_lt_iff_lt_mul sQ];exact hj
  have hjm:j % size<(ys[j / size]).length:=by rw[ru _ (pO hi)];exact Nat.mod_lt _ sQ
  exact⟨j / size,ys[j / size],(ys[j / size])[j % size],by rw[qJ];exact (Nat.div_add_mod j size).symm,mY hi,mY hjm⟩
 refine⟨(List.range (ys.length*size)).map λj=>(w.cell? ((⟨b,o,none⟩:Addr).add j)).getD undef,by simp,λj u hu=>?_,λu hu=>?_,λi y hy j c hc=>?_⟩
 ·have hj:j<ys.length*size:=by have:=(mT.1 hu).1;simpa using this
  simp only[mX,oe hj,nS,mU]at hu;obtain⟨i,y,c,he,hy,hc⟩:=hat j hj;obtain⟨u',h1,_⟩:=h i y hy _ c hc;rw[CI,he,<- oW]at hu⊢;rw[h1]at hu⊢;simp only[oh]at hu;rw[hu]
 ·obtain⟨j,hj,rfl⟩:=mu.1 hu;rw[ot]at hj;obtain⟨i,y,c,he,hy,hc⟩:=hat j hj;obtain⟨u',h1,h2,h3⟩:=h i y hy _ c hc;rw[CI,he,<- oW,h1];exact Wc h2 h3
 ·have hi:=(mT.1 hy).1;have uf:j<size:=by rw[<- ru y (mS hy)];exact (mT.1 hc).1
  obtain⟨u,h1,h2,h3⟩:=h i y hy j c hc;have rh:i*size+j<ys.length*size:=by
   have:(i+1)*size<=ys.length*size:=nX _ hi;rw[nZ]at this;omega
  refine⟨u,?_,h2,h3⟩;simp only[mX,oe rh,nS,CI,<- oW,h1,oh]
end Go.Abs
