import Derived.Test.YtihdgoiebmfapaaGreatAbsD
set_option linter.all false
namespace Go.Abs
open Go
def J6 (v:AV):Option (List AV):=
 match v with
 | .agg cs=>if cs.all AV.leaf then some cs else none
 | v=>if v.leaf then some [v] else none
def IL (P:Program)(e:TypeId):Option (List AV):=
 match P.info? e with
 | some i=>match i.zero with
  | some z=>if (z.cells.toList.map MX).all AV.leaf&&!z.cells.isEmpty then some (z.cells.toList.map MX) else none
  | none=>none
 | none=>none
def Gw (x:List AV)(off:Nat)(cs:List AV):List AV:=x.take off++cs++x.drop (off+cs.length)
def ZI (P:Program)(e:TypeId)(st:List Row)(K:AV->List Row->Prop):Prop:=
 Fb (IL P e) λz=>K (.ptr st.length 0 0 0) (st++[⟨0,e,z.length,[z]⟩])
def dD (e:TypeId)(st:List Row)(v:AV)(K:AV->List Row->Prop):Prop:=
 Fb (J6 v) λcs=>cs≠[]/\K (.ptr st.length 0 0 0) (st++[⟨0,e,cs.length,[cs]⟩])
def WG (P:Program)(st:List Row)(t:TypeId)(p v:AV)(K:List Row->Prop):Prop:=
 Fb (EN P t) λti=>match p with
  | .ptr id g i off=>Fb st[id]? λrow=>row.gen=g/\Fb row.xs[i]? λx=>Fb (J6 v) λcs=>
    cs.length=ti.2/\off+cs.length<=row.size/\K (st.set id { row with xs:=row.xs.set i (Gw x off cs) })
  | _=>False
def YP (P:Program)(st:List Row)(t:TypeId)(l c:AV)(K:AV->List Row->Prop):Prop:=
 Fb (Dt P t) λei=>match l,c with
  | .int _ n,.int _ m=>n=m/\0<=n/\n*(ei.bytes:Int)<=281474976710656/\n<=9223372036854775807/\K (.own st.length 0 n.toNat) (st++[⟨0,ei.e,ei.size,List.replicate n.toNat ei.zero⟩])
  | _,_=>False
def WL (st:List Row)(x:AV)(K:List (List AV)->Prop):Prop:=
 match x with
 | .sl ys=>K ys
 | .zc=>K []
 | .own id g n=>Fb st[id]? λrow=>row.gen=g/\(∀y∈row.xs,∀c∈y,c.leaf=true)/\n=row.xs.length/\K (row.xs.take n)
 | _=>False
def UM (P:Program)(st:List Row)(t:TypeId)(d x:AV)(K:AV->List Row->Prop):Prop:=
 Fb (Dt P t) λei=>WL st x λys=>(∀y∈ys,y.length=ei.size)/\match d with
  | .zc=>ys.length*ei.bytes<=140737488355328/\ys.length<=9223372036854775807/\K (.own st.length 0 ys.length) (st++[⟨0,ei.e,ei.size,ys⟩])
  | .own id g n=>Fb st[id]? λrow=>row.gen=g/\n=row.xs.length/\row.elem=ei.e/\row.size=ei.size/\(n+ys.length)*ei.bytes<=140737488355328/\n+ys.length<=9223372036854775807/\
    K (.own id (g+1) (n+ys.length)) (st.set id { row with gen:=g+1,xs:=row.xs.take n++ys })
  | _=>False
variable {P : Program} {F : Nat -> Prop} {os : List Own} {s : St} {a : Act} {w : World} {k : Nat}
def He (P:Program)(k:Nat)(F:Nat->Prop)(os:List Own)(s:St)(a:Act)(w:World)(pI:Sem Value)(K:AV->List Row->Prop):Prop:=
 ∃v st' u w' os',K v st'/\pI.run P w=.ok u w'/\Rel F os' { s with st:=st' } a w'/\Ae F w' os' v u/\Ext F os w F os' w' k
theorem Rel.len (hr:Rel F os s a w):s.st.length=os.length:=by rw[<- hr.st];simp
theorem Xb (hr:Rel F os s a w){w':World}{o:Own}(hb:o.Fa=some w.heap.size)(hx:0<o.row.xs.length)(hg:o.row.gen=0):Ae F w' (os++[o]) (.ptr s.st.length 0 0 0) (.pointer (some ⟨w.heap.size,0,none⟩)):=by
 simp only[Ae];exact⟨o,by rw[hr.len];simp,by omega,⟨_,rfl⟩,λ_=>⟨hx,gK _,_,hb,by simp⟩⟩
theorem Oy {v:AV}{u:Value}{cs:List AV}(h:J6 v=some cs)(hv:Ae F w os v u):Br F w os cs u.cells.toList/\(∀c∈cs,c.leaf=true):=by
 cases v with
 | agg xs=>
  simp only[J6]at h;split at h<;>simp only[ff,reduceCtorEq]at h;subst h;rename_i hl;simp only[Ae]at hv;obtain⟨us,rfl,hus⟩:=hv;exact⟨by simpa [Value.cells] using hus,λc hc=>fk.1 hl c hc⟩
 | _=>
  simp only[J6]at h;split at h<;>simp only[ff,reduceCtorEq]at h;subst h;rename_i hl;refine⟨?_,by simpa using hl⟩;have h1:=NV hl hv;have:u.cells.toList=[u]:=by cases u<;>simp_all [Value.cells,Value.oneCell']
  rw[this];simp only[Br];exact⟨u,[],rfl,hv,rfl⟩
theorem Tl (hr:Rel F os s a w){e:TypeId}{v:Value}{cs:List AV}(hl:Br F w os cs v.cells.toList)(mD :∀c∈cs,c.leaf=true)(lv:cs≠[]){K:AV->List Row->Prop}
  (hk:K (.ptr s.st.length 0 0 0) (s.st++[⟨0,e,cs.length,[cs]⟩])):He P k F os s a w (do pure (.pointer (some (← newVar e v)))) K:=by
 have hlen:=BW hl;simp only[iw]at hlen;have mH:0<cs.length:=jv.2 lv;have:=hr.NZ (k:=k) (.inl rfl) (cur:=v.cells) (e:=e) (size:=cs.length) (cap:=1) (xs:=[cs]) mH (by simpa using mD) (by simpa using hlen) (by simp) (by simp[maxLen]) (λi x hx j c hc=>by
  cases i with
  | zero=>
   simp only[gQ,ff]at hx;subst hx;obtain⟨u,h1,h2⟩:=CJ hl j c hc;exact⟨u,by simpa using h1,h2⟩
  | succ i=>simp at hx)
 refine⟨_,_,.pointer (some ⟨w.heap.size,0,none⟩),_,_,hk,?_,this.1,Xb hr rfl (by simp) rfl,this.2.1⟩;simp[newVar,newRow]
theorem ax {e:TypeId}{v:AV}{u:Value}{K:AV->List Row->Prop}(hr:Rel F os s a w)(h:dD e s.st v K)(hv:Ae F w os v u):He P k F os s a w (Instr.box e u) K:=by
 obtain⟨cs,nP,lv,hk⟩:=BK h;obtain⟨h1,h2⟩:=Oy nP hv;exact Tl hr h1 h2 lv hk
theorem Se {e:TypeId}{z:List AV}(h:IL P e=some z):∃i v,P.info? e=some i/\i.zero=some v/\z=v.cells.toList.map MX/\(∀c∈z,c.leaf=true)/\z≠[]:=by
 unfold IL at h;split at h<;>try (cases h;done)
 rename_i i hi;split at h<;>try (cases h;done)
 rename_i v hv;split at h<;>try (cases h;done)
 rename_i hc;simp only[gN,Bool.not_eq_true',Array.isEmpty_eq_false_iff]at hc;simp only[ff]at h;subst h;refine⟨i,v,hi,hv,rfl,λc hm=>fk.1 hc.1 c hm,?_⟩;simpa using hc.2
theorem YR {e:TypeId}{K:AV->List Row->Prop}(hr:Rel F os s a w)(h:ZI P e s.st K):He P k F os s a w (Instr.alloc e true (.tuple #[])) K:=by
 obtain⟨z,hz,hk⟩:=BK h;obtain⟨i,v,hi,hv,rfl,hl,lv⟩:=Se hz;obtain⟨x,st',u,w',os',h1,h2,h3⟩:=Tl (P:=P) (k:=k) (v:=v) hr (Nl F w os _) hl lv hk;refine⟨x,st',u,w',os',h1,?_,h3⟩;have zw:(zeroValue e).run P w=.ok v w:=by simp[zeroValue,typeInfo,hi,hv]
 simpa [Instr.alloc,zw] using h2
theorem Th {x cs:List AV}{off n:Nat}(hx:x.length=n)(h:off+cs.length<=n):(Gw x off cs).length=n:=by
 simp[Gw];omega
theorem Oz (x cs:List AV)(off j:Nat)(uP:off<=x.length):(Gw x off cs)[j]?=if j<off then x[j]? else if j<off+cs.length then cs[j-off]? else x[j]?:=by
 unfold Gw;by_cases h1:j<off
 ·rw[fq h1,jh,ft (by simp;omega),gR,fq h1]
 ·rw[fr h1];by_cases h2:j<off+cs.length
  ·rw[fq h2,ft (by simp;omega),fw (by simp;omega)];simp[ju uP]
  ·rw[fr h2,fw (by simp;omega),gh];congr 1;simp[ju uP];omega
theorem Jj {cur:Array Value}{us:List Value}{p j:Nat}(h:p+us.length<=cur.size):
  ((cur.toList.take p++us++cur.toList.drop (p+us.length)).toArray)[j]?=if j<p then cur[j]? else if j<p+us.length then us[j-p]? else cur[j]?:=by
 simp only[jn];by_cases h1:j<p
 ·rw[fq h1,jh,ft (by simp;omega),gR,fq h1];simp
 ·rw[fr h1];by_cases h2:j<p+us.length
  ·rw[fq h2,ft (by simp;omega),fw (by simp;omega)];congr 1;simp;omega
  ·rw[fr h2,fw (by simp;omega),gh];simp only[gV,iz,iw,il];congr 1;omega
theorem YN {t:TypeId}{p v:AV}{up uv:Value}{K:List Row->Prop}(hr:Rel F os s a w)(h:WG P s.st t p v K)(hp:Ae F w os p up)(hv:Ae F w os v uv):
  ∃st' w' os',K st'/\(Instr.storeAt t up uv).run P w=.ok () w'/\Rel F os' { s with st:=st' } a w'/\Ext F os w F os' w' k:=by
 obtain⟨ti,ht,h⟩:=BK h;obtain⟨d,inf,hud,hi,_,e2⟩:=Io ht;cases p with
 | ptr id g i off=>
  obtain⟨row,lQ,hg,h0⟩:=BK h;obtain⟨x,hx,h1⟩:=BK h0;obtain⟨cs,nP,hlen,mr,hk⟩:=BK h1;obtain⟨o,ho,rfl⟩:=hr.row lQ;simp only[Ae]at hp;obtain⟨o',lz,ob,_,hp⟩:=hp;rw[ho]at lz;cases lz;obtain⟨_,_,b,hb,rfl⟩:=hp hg;obtain⟨pJ,mD⟩:=Oy nP hv;have lU:=hr.rows id o ho;obtain⟨po,cur,lj,lr,hle,nU,lk⟩:=lU.some b hb;have nQ:i<o.row.xs.length:=(fe.1 hx).1;have oC:=BW pJ;have zy:=(lU.lens x (fc hx)).1;have hbound:i*o.row.size+off+uv.cells.toList.length<=cur.size:=by
   rw[oC,lr];have:(i+1)*o.row.size<=o.cap*o.row.size:=gW _ (by omega);rw[gU]at this;omega
  have qU:∀u∈uv.cells.toList,u.oneCell'=true:=λu hu=>by
   obtain⟨j,hj⟩:=gG.1 hu;have oh:j<cs.length:=by rw[<- oC];exact (fe.1 hj).1
   obtain⟨u',nC,mc⟩:=CJ pJ j cs[j] (fm oh);rw[hj]at nC;cases nC;exact NV (mD _ (jG oh)) mc
  have lp:=run_storeCells_at P b (i*o.row.size+off) o.row.elem uv.cells.toList 0 cur w lj (by simpa using hbound) qU;simp only[jJ]at lp;have nK:=hr.Ov (k:=k) (o':={ o with row:={ o.row with xs:=o.row.xs.set i (Gw x off cs) } }) ho (w':=w.setRow b (cur.toList.take (i*o.row.size+off)++uv.cells.toList++cur.toList.drop (i*o.row.size+off+uv.cells.toList.length)).toArray)
   (by rw[hb];exact HN.setRow _ _ _) (gA _) rfl (λ_=>⟨rfl,rfl,by simp⟩) (λg hg=>.inl hg) (λlY=>by
    have uQ:J2 (w.setRow b (cur.toList.take (i*o.row.size+off)++uv.cells.toList++cur.toList.drop (i*o.row.size+off+uv.cells.toList.length)).toArray) { o with row:={ o.row with xs:=o.row.xs.set i (Gw x off cs) } }:=by
     obtain⟨D,d1,d2,d3⟩:=lU.deep;refine⟨D,d1,d2,λb' mE om el l mI i' y j e s' ys hy hc=>?_⟩;simp only at mE hy⊢;rw[hb]at mE;cases mE;rw[kE w b cur _ _ _ lj]at mI;cases mI;have hold:∃y0,o.row.xs[i']?=some y0/\y0[j]?=some (.dv e s' ys)/\(i'≠i∨j<off∨off+cs.length<=j):=by
      by_cases rA:i'=i
      ·subst rA;rw[fv nQ,ff]at hy;subst hy;rw[Oz _ _ _ _ (by omega)]at hc;by_cases pq:j<off
       ·rw[fq pq]at hc;exact⟨x,hx,hc,.inr (.inl pq)⟩
       ·rw[fr pq]at hc;by_cases qK:j<off+cs.length
        ·rw[fq qK]at hc;have:=mD _ (fc hc);simp[AV.leaf]at this
        ·rw[fr qK]at hc;exact⟨x,hx,hc,.inr (.inr (by omega))⟩
      ·rw[gJ (iT rA)]at hy;exact⟨y,hy,hc,.inl rA⟩
     obtain⟨y0,sL,nO,lv⟩:=hold;obtain⟨u,q1,q2⟩:=d3 b hb cur _ _ lj i' y0 j e s' ys sL nO;have oh:j<o.row.size:=by rw[<- (lU.lens y0 (fc sL)).1];exact (fe.1 nO).1
     refine⟨u,?_,Lu (λ_ h=>h) (λc mq=>setRow_other w b c _ λe=>?_) _ u q2⟩
     ·rw[Jj hbound,oC];rcases iH i' i with lh|rA|hgt
      ·have:(i'+1)*o.row.size<=i*o.row.size:=gW _ lh;rw[gU]at this;rw[fq (by omega)];exact q1
      ·subst rA;rcases lv with lv|lv|lv
       ·exact absurd rfl lv
       ·rw[fq (by omega)];exact q1
       ·rw[fr (by omega),fr (by omega)];exact q1
      ·have:(i+1)*o.row.size<=i'*o.row.size:=gW _ hgt;rw[gU]at this;rw[fr (by omega),fr (by omega)];exact q1
     ·subst e;exact (lU.mo _ (d1 _ _ _ mq)).2.2 hb
    refine⟨lU.pos,λy hy=>?_,(λhn=>by rw[hb]at hn;cases hn),λb' mE=>?_,λg hg=>⟨(lU.mo g hg).1,by simpa using (lU.mo g hg).2.1,(lU.mo g hg).2.2⟩,uQ⟩
    ·rcases gp hy with hy|rfl
     ·exact lU.lens y hy
     ·refine⟨Th zy (by simpa using mr),λc hc=>?_⟩;unfold Gw at hc;simp only[gS]at hc;rcases hc with (hc|hc)|hc
      ·exact (lU.lens x (fc hx)).2 c (hX hc)
      ·exact Dr (mD c hc)
      ·exact (lU.lens x (fc hx)).2 c (iL hc)
    ·rw[hb]at mE;cases mE;refine⟨po,_,kE w b cur _ _ _ lj,?_,by simpa using hle,nU,λi' y hy j c hc=>?_⟩
     ·simp only[jL,gV,iz,jH,iw] at *;omega
     ·simp only at hy⊢;rw[Jj hbound];by_cases rA:i'=i
      ·subst rA;rw[fv nQ,ff]at hy;subst hy;rw[Oz _ _ _ _ (by omega)]at hc;by_cases pq:j<off
       ·rw[fq pq]at hc;obtain⟨u,h1,h2⟩:=lk _ _ hx j c hc;exact⟨u,by rw[fq (by omega)];exact h1,lY _ _ h2⟩
       ·rw[fr pq]at hc;by_cases qK:j<off+cs.length
        ·rw[fq qK]at hc;obtain⟨u,h1,h2⟩:=CJ pJ _ _ hc;refine⟨u,?_,lY _ _ h2⟩;rw[fr (by omega),fq (by rw[oC];omega),<- h1];congr 1;omega
        ·rw[fr qK]at hc;obtain⟨u,h1,h2⟩:=lk _ _ hx j c hc;exact⟨u,by rw[fr (by omega),fr (by rw[oC];omega)];exact h1,lY _ _ h2⟩
      ·rw[gJ (iT rA)]at hy;obtain⟨u,h1,h2⟩:=lk _ _ hy j c hc;have oh:j<o.row.size:=by rw[<- (lU.lens y (fc hy)).1];exact (fe.1 hc).1
       refine⟨u,?_,lY _ _ h2⟩;rcases Nat.lt_or_gt_of_ne rA with lh|hgt
       ·have:(i'+1)*o.row.size<=i*o.row.size:=gW _ lh;rw[gU]at this;rw[fq (by omega)];exact h1
       ·have:(i+1)*o.row.size<=i'*o.row.size:=gW _ hgt;rw[gU]at this;rw[fr (by omega),fr (by rw[oC];omega)];exact h1)
  refine⟨_,_,_,hk,?_,nK.1,nK.2.1⟩;have wY:(sizeOf t).run P w=.ok ti.2 w:=by simp[sizeOf,typeInfo,hi,e2]
  have:uv.cells.size=ti.2:=by rw[<- hlen,<- oC];simp
  simp[Instr.storeAt,Instr.sureAddr,storeVar,wY,this,lp]
 | _=>exact h.elim
theorem Vu {t:TypeId}{l c:AV}{ul uc:Value}{K:AV->List Row->Prop}(hr:Rel F os s a w)(h:YP P s.st t l c K)(hl:Ae F w os l ul)(hc:Ae F w os c uc):He P k F os s a w (Instr.makeSlice t ul uc) K:=by
 obtain⟨ei,he,h⟩:=BK h;obtain⟨inf,z,hu,hi,hz,nz,mH,lr,hby,hzero,rB⟩:=Ht he;cases l with
 | int kl n=>
  cases c with
  | int kc m=>
   obtain⟨rfl,h0,hb,hm,hk⟩:=h;simp only[Ae]at hl hc;subst hl;subst hc;obtain⟨N,rfl⟩:=gv h0;simp only[ie]at hk;have ln:=run_make (P:=P) w t ei.e inf z hu hi hz kl kc N N (by omega) (Int.le_refl _) (by rw[<- hby,Int.mul_comm];omega) (by omega);simp only[ie]at ln;have uR:ei.zero.length=ei.size:=by rw[hzero,lr,<- nz];simp
   have:=hr.NZ (k:=k) (.inl rfl) (cur:=madeCells z.cells (N*inf.size)) (e:=ei.e) (size:=ei.size) (cap:=N) (xs:=List.replicate N ei.zero) (by omega)
    (λx hx=>by rw[List.mem_replicate]at hx;rw[hx.2];exact⟨uR,rB⟩) (by rw[size_madeCells,lr]) (by simp) (by simp[maxLen];omega) (λi x hx j c hc=>by
     rw[List.getElem?_replicate]at hx;split at hx<;>simp only[ff,reduceCtorEq]at hx;subst hx;rename_i wZ;have oh:j<ei.size:=by rw[<- uR];exact (fe.1 hc).1
     have qK:j<z.cells.size:=by omega
     refine⟨z.cells[j],?_,?_⟩
     ·have lh:i*ei.size+j<N*inf.size:=by
       have:(i+1)*ei.size<=N*ei.size:=gW _ wZ;rw[gU]at this;rw[<- lr];omega
      have pS:(i*ei.size+j) % z.cells.size=j:=by rw[nz,<- lr,kN,Nat.mul_add_mod];exact jQ oh
      simp[madeCells,lh,pS,qK]
     ·rw[hzero]at hc;simp only[fg,il,iC qK,gu,ff]at hc;subst hc;exact LM F w os _)
   refine⟨_,_,_,_,_,hk,ln,this.1,?_,this.2.1⟩;simp only[Ae];refine⟨⟨⟨0,ei.e,ei.size,List.replicate N ei.zero⟩,some w.heap.size,N,FP⟩,by rw[hr.len];simp,by simp,⟨_,_,_,rfl⟩,λ_=>⟨by simp,.inr ⟨_,rfl,by simp⟩⟩⟩
  | _=>exact h.elim
 | _=>cases c<;>exact h.elim
structure Src (F:Nat->Prop) (w:World) (os:List Own) (u:Value) (ys:List (List AV)) (size:Nat):Prop where
 shape :∃ad c,u=.slice ad ys.length c/\(ys=[]∨∃b o,ad=some ⟨b,o,none⟩/\∀(i:Nat) y,ys[i]?=some y->Ln F w os b (o+i*size) y)
theorem T9 {x:AV}{u:Value}{size:Nat}{K:List (List AV)->Prop}(hr:Rel F os s a w)(h:WL s.st x λys=>(∀y∈ys,y.length=size)/\K ys)(hx:Ae F w os x u):∃ys,K ys/\(∀y∈ys,y.length=size)/\(ys=[]∨∀y∈ys,∀c∈y,c.leaf=true)/\Src F w os u ys size:=by
 cases x with
 | sl ys=>
  obtain⟨lr,hk⟩:=h;simp only[Ae]at hx;obtain⟨ad,cap,rfl,_,lv⟩:=hx;by_cases he:ys=[]
  ·exact⟨ys,hk,lr,.inl he,⟨ad,cap,rfl,.inl he⟩⟩
  ·obtain⟨b,o,sz,rfl,hb,hss,mg⟩:=lv he;refine⟨ys,hk,lr,.inr λy hy c hc=>?_,⟨_,cap,rfl,?_⟩⟩
   ·obtain⟨i,hi⟩:=gG.1 hy;obtain⟨j,hj⟩:=gG.1 hc;obtain⟨_,_,h2,_⟩:=Mi (Jz hss mg i y hi) j c hj;exact h2
   have:sz=size:=by
    obtain⟨y,hy⟩:=List.exists_mem_of_ne_nil ys he;rw[<- hss y hy,lr y hy]
   subst this;exact .inr ⟨b,o,rfl,λi y hy=>Kb (Jz hss mg i y hy)⟩
 | zc=>
  obtain⟨lr,hk⟩:=h;simp only[Ae]at hx;obtain⟨ad,rfl⟩:=hx;exact⟨[],hk,by simp,.inl rfl,⟨ad,0,rfl,.inl rfl⟩⟩
 | own id g n=>
  obtain⟨row,lQ,hg,mQ,rU,lr,hk⟩:=BK h;obtain⟨o,ho,rfl⟩:=hr.row lQ;simp only[Ae]at hx;obtain⟨o',lz,ob,_,hx⟩:=hx;rw[ho]at lz;cases lz;obtain⟨hle,hx⟩:=hx hg;simp only[LX rU]at hx;refine⟨_,hk,lr,.inr (λy hy=>mQ y (hX hy)),?_⟩;have hlen:(o.row.xs.take n).length=n:=by simp;omega
  rcases hx with ⟨hb,ad,rfl⟩|⟨b,hb,rfl⟩
  ·have:=((hr.rows id o ho).none hb).1;exact⟨ad,0,by rw[hlen],.inl (by rw[this];simp)⟩
  ·refine⟨_,o.cap,by rw[hlen],.inr ⟨b,0,rfl,λi y hy=>?_⟩⟩;have sL:=hy;rw[gR]at hy;split at hy
   ·have h1:=hr.PQ ho hb hy;have:o.row.size=size:=by
     rw[<- lr y (fc sL)];exact (((hr.rows id o ho).lens y (fc hy)).1).symm
    rw[this]at h1;simpa using h1
   ·cases hy
 | _=>exact h.elim
theorem PK {b o size:Nat}{ys:List (List AV)}(lr :∀y∈ys,y.length=size)(h :∀(i:Nat) y,ys[i]?=some y->Ln F w os b (o+i*size) y):
  ∃us:List Value,us.length=ys.length*size/\(∀(j:Nat) u,us[j]?=some u->w.cell? ((⟨b,o,none⟩:Addr).add j)=some u)/\(∀u∈us,u.oneCell'=true)/\
   ∀(i:Nat) y,ys[i]?=some y->∀(j:Nat) c,y[j]?=some c->∃u,us[i*size+j]?=some u/\c.kept=true/\Ae F w os c u:=by
 have zF:∀j,j<ys.length*size->∃i y c,j=i*size+j % size/\ys[i]?=some y/\y[j % size]?=some c:=λj hj=>by
  have mH:0<size:=Nat.pos_of_ne_zero (by rintro rfl;simp at hj);have hi:j / size<ys.length:=by rw[Nat.div_lt_iff_lt_mul mH];exact hj
  have hjm:j % size<(ys[j / size]).length:=by rw[lr _ (jG hi)];exact Nat.mod_lt _ mH
  exact⟨j / size,ys[j / size],(ys[j / size])[j % size],by rw[kN];exact (Nat.div_add_mod j size).symm,fm hi,fm hjm⟩
 refine⟨(List.range (ys.length*size)).map λj=>(w.cell? ((⟨b,o,none⟩:Addr).add j)).getD undef,by simp,λj u hu=>?_,λu hu=>?_,λi y hy j c hc=>?_⟩
 ·have hj:j<ys.length*size:=by have:=(fe.1 hu).1;simpa using this
  simp only[fg,ix hj,gu,ff]at hu;obtain⟨i,y,c,he,hy,hc⟩:=zF j hj;obtain⟨u',h1,_⟩:=h i y hy _ c hc;rw[Cy,he,<- iO]at hu⊢;rw[h1]at hu⊢;simp only[jA]at hu;rw[hu]
 ·obtain⟨j,hj,rfl⟩:=gC.1 hu;rw[ig]at hj;obtain⟨i,y,c,he,hy,hc⟩:=zF j hj;obtain⟨u',h1,h2,h3⟩:=h i y hy _ c hc;rw[Cy,he,<- iO,h1];exact U7 h2 h3
 ·have hi:=(fe.1 hy).1;have oh:j<size:=by rw[<- lr y (fc hy)];exact (fe.1 hc).1
  obtain⟨u,h1,h2,h3⟩:=h i y hy j c hc;have lh:i*size+j<ys.length*size:=by
   have:(i+1)*size<=ys.length*size:=gW _ hi;rw[gU]at this;omega
  refine⟨u,?_,h2,h3⟩;simp only[fg,ix lh,gu,Cy,<- iO,h1,jA]
end Go.Abs
