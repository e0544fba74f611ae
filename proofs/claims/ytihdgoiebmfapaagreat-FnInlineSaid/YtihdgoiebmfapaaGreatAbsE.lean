import Derived.Test.YtihdgoiebmfapaaGreatAbsD
set_option linter.all false
namespace Go.Abs
open Go
def KB (v:AV):Option (List AV):=
 match v with
 |.agg cs=>if cs.all AV.leaf then some cs else none
 |v=>if v.leaf then some [v] else none
def II (P:Program)(e:TypeId):Option (List AV):=
 match P.info? e with
 |some i=>match i.zero with
  |some z=>if (z.cells.toList.map N9).all AV.leaf&&!z.cells.isEmpty then some (z.cells.toList.map N9) else none
  |none=>none
 |none=>none
def HQ (x:List AV)(off:Nat)(cs:List AV):List AV:=x.take off++cs++x.drop (off+cs.length)
def fy (P:Program)(e:TypeId)(st:List Row)(K:AV->List Row->Prop):Prop:=
 GM (II P e) λz=>K (.ptr st.length 0 0 0) (st++[⟨0,e,z.length,[z]⟩])
def mL (e:TypeId)(st:List Row)(v:AV)(K:AV->List Row->Prop):Prop:=
 GM (KB v) λcs=>cs≠[]/\K (.ptr st.length 0 0 0) (st++[⟨0,e,cs.length,[cs]⟩])
def bE (P:Program)(st:List Row)(t:TypeId)(p v:AV)(K:List Row->Prop):Prop:=
 GM (Dd P t) λti=>match p with
  |.ptr id g i off=>GM st[id]? λrow=>row.gen=g/\GM row.xs[i]? λx=>GM (KB v) λcs=>
    cs.length=ti.2/\off+cs.length<=row.size/\K (st.set id { row with xs:=row.xs.set i (HQ x off cs) })
  |_=>False
def eU (P:Program)(st:List Row)(t:TypeId)(l c:AV)(K:AV->List Row->Prop):Prop:=
 GM (DB P t) λei=>match l,c with
  |.int _ n,.int _ m=>n=m/\0<=n/\n*(ei.bytes:Int)<=281474976710656/\n<=9223372036854775807/\K (.own st.length 0 n.toNat) (st++[⟨0,ei.e,ei.size,List.replicate n.toNat ei.zero⟩])
  |_,_=>False
def bI (st:List Row)(x:AV)(K:List (List AV)->Prop):Prop:=
 match x with
 |.sl ys=>K ys
 |.zc=>K []
 |.own id g n=>GM st[id]? λrow=>row.gen=g/\(∀y∈row.xs,∀c∈y,c.leaf=true)/\n=row.xs.length/\K (row.xs.take n)
 |_=>False
def XB (P:Program)(st:List Row)(t:TypeId)(d x:AV)(K:AV->List Row->Prop):Prop:=
 GM (DB P t) λei=>bI st x λys=>(∀y∈ys,y.length=ei.size)/\match d with
  |.zc=>ys.length*ei.bytes<=140737488355328/\ys.length<=9223372036854775807/\K (.own st.length 0 ys.length) (st++[⟨0,ei.e,ei.size,ys⟩])
  |.own id g n=>GM st[id]? λrow=>row.gen=g/\n=row.xs.length/\row.elem=ei.e/\row.size=ei.size/\(n+ys.length)*ei.bytes<=140737488355328/\n+ys.length<=9223372036854775807/\
    K (.own id (g+1) (n+ys.length)) (st.set id { row with gen:=g+1,xs:=row.xs.take n++ys })
  |_=>False
variable {P : Program} {F : Nat -> Prop} {os : List Own} {s : St} {a : Act} {w : World} {k : Nat}
def Im (P:Program)(k:Nat)(F:Nat->Prop)(os:List Own)(s:St)(a:Act)(w:World)(yc:Sem Value)(K:AV->List Row->Prop):Prop:=
 ∃v st' u w' os',K v st'/\yc.run P w=.ok u w'/\Rel F os' { s with st:=st' } a w'/\Ab F w' os' v u/\Ext F os w F os' w' k
theorem Rel.len (hr:Rel F os s a w):s.st.length=os.length:=by rw[<- hr.st];simp
theorem bu (hr:Rel F os s a w){w':World}{o:Own}(hb:o.GC=some w.heap.size)(hx:0<o.row.xs.length)(hg:o.row.gen=0):Ab F w' (os++[o]) (.ptr s.st.length 0 0 0) (.pointer (some ⟨w.heap.size,0,none⟩)):=by
 simp only[Ab];exact⟨o,by rw[hr.len];simp,by omega,⟨_,rfl⟩,λ_=>⟨hx,pT _,_,hb,by simp⟩⟩
theorem QS {v:AV}{u:Value}{cs:List AV}(h:KB v=some cs)(hv:Ab F w os v u):Br F w os cs u.cells.toList/\(∀c∈cs,c.leaf=true):=by
 cases v with
 |agg xs=>
  simp only[KB]at h;split at h<;>simp only[pD,reduceCtorEq]at h;subst h;rename_i hl;simp only[Ab]at hv;obtain⟨us,rfl,hus⟩:=hv;exact⟨by simpa [Value.cells] using hus,λc hc=>pH.1 hl c hc⟩
 |_=>
  simp only[KB]at h;split at h<;>simp only[pD,reduceCtorEq]at h;subst h;rename_i hl;refine⟨?_,by simpa using hl⟩;have h1:=Pa hl hv;have:u.cells.toList=[u]:=by cases u<;>simp_all [Value.cells,Value.oneCell']
  rw[this];simp only[Br];exact⟨u,[],rfl,hv,rfl⟩
theorem YS (hr:Rel F os s a w){e:TypeId}{v:Value}{cs:List AV}(hl:Br F w os cs v.cells.toList)(vF :∀c∈cs,c.leaf=true)(uu:cs≠[]){K:AV->List Row->Prop}
  (hk:K (.ptr s.st.length 0 0 0) (s.st++[⟨0,e,cs.length,[cs]⟩])):Im P k F os s a w (do pure (.pointer (some (← newVar e v)))) K:=by
 have hlen:=BV hl;simp only[rP]at hlen;have vA:0<cs.length:=sd.2 uu;have:=hr.PJ (k:=k) (.inl rfl) (cur:=v.cells) (e:=e) (size:=cs.length) (cap:=1) (xs:=[cs]) vA (by simpa using vF) (by simpa using hlen) (by simp) (by simp[maxLen]) (λi x hx j c hc=>by
  cases i with
  |zero=>
   simp only[pj,pD]at hx;subst hx;obtain⟨u,h1,h2⟩:=CH hl j c hc;exact⟨u,by simpa using h1,h2⟩
  | succ i=>simp at hx)
 refine⟨_,_,.pointer (some ⟨w.heap.size,0,none⟩),_,_,hk,?_,this.1,bu hr rfl (by simp) rfl,this.2.1⟩;simp[newVar,newRow]
theorem jV {e:TypeId}{v:AV}{u:Value}{K:AV->List Row->Prop}(hr:Rel F os s a w)(h:mL e s.st v K)(hv:Ab F w os v u):Im P k F os s a w (Instr.box e u) K:=by
 obtain⟨cs,vp,uu,hk⟩:=BN h;obtain⟨h1,h2⟩:=QS vp hv;exact YS hr h1 h2 uu hk
theorem Vc {e:TypeId}{z:List AV}(h:II P e=some z):∃i v,P.info? e=some i/\i.zero=some v/\z=v.cells.toList.map N9/\(∀c∈z,c.leaf=true)/\z≠[]:=by
 unfold II at h;split at h<;>try (cases h;done)
 rename_i i hi;split at h<;>try (cases h;done)
 rename_i v hv;split at h<;>try (cases h;done)
 rename_i hc;simp only[pb,sR,Array.isEmpty_eq_false_iff]at hc;simp only[pD]at h;subst h;refine⟨i,v,hi,hv,rfl,λc hm=>pH.1 hc.1 c hm,?_⟩;simpa using hc.2
theorem eX {e:TypeId}{K:AV->List Row->Prop}(hr:Rel F os s a w)(h:fy P e s.st K):Im P k F os s a w (Instr.alloc e true (.tuple #[])) K:=by
 obtain⟨z,hz,hk⟩:=BN h;obtain⟨i,v,hi,hv,rfl,hl,uu⟩:=Vc hz;obtain⟨x,st',u,w',os',h1,h2,h3⟩:=YS (P:=P) (k:=k) (v:=v) hr (Ph F w os _) hl uu hk;refine⟨x,st',u,w',os',h1,?_,h3⟩;have hz':(zeroValue e).run P w=.ok v w:=by simp[zeroValue,typeInfo,hi,hv]
 simpa [Instr.alloc,hz'] using h2
theorem XY {x cs:List AV}{off n:Nat}(hx:x.length=n)(h:off+cs.length<=n):(HQ x off cs).length=n:=by
 simp[HQ];omega
theorem Qu (x cs:List AV)(off j:Nat)(hoff:off<=x.length):(HQ x off cs)[j]?=if j<off then x[j]? else if j<off+cs.length then cs[j-off]? else x[j]?:=by
 unfold HQ;by_cases h1:j<off
 .rw[pJ h1,qf,pN (by simp;omega),po,pJ h1]
 .rw[pK h1];by_cases h2:j<off+cs.length
  .rw[pJ h2,pN (by simp;omega),pO (by simp;omega)];simp[sM hoff]
  .rw[pK h2,pO (by simp;omega),qI];congr 1;simp[sM hoff];omega
theorem LA {cur:Array Value}{us:List Value}{p j:Nat}(h:p+us.length<=cur.size):
  ((cur.toList.take p++us++cur.toList.drop (p+us.length)).toArray)[j]?=if j<p then cur[j]? else if j<p+us.length then us[j-p]? else cur[j]?:=by
 simp only[rr];by_cases h1:j<p
 .rw[pJ h1,qf,pN (by simp;omega),po,pJ h1];simp
 .rw[pK h1];by_cases h2:j<p+us.length
  .rw[pJ h2,pN (by simp;omega),pO (by simp;omega)];congr 1;simp;omega
  .rw[pK h2,pO (by simp;omega),qI];simp only[pW,rQ,rP,qx];congr 1;omega
theorem eA {t:TypeId}{p v:AV}{up uv:Value}{K:List Row->Prop}(hr:Rel F os s a w)(h:bE P s.st t p v K)(hp:Ab F w os p up)(hv:Ab F w os v uv):
  ∃st' w' os',K st'/\(Instr.storeAt t up uv).run P w=.ok () w'/\Rel F os' { s with st:=st' } a w'/\Ext F os w F os' w' k:=by
 obtain⟨ti,ht,h⟩:=BN h;obtain⟨d,inf,hud,hi,_,e2⟩:=Jy ht;cases p with
 |ptr id g i off=>
  obtain⟨row,tw,hg,h0⟩:=BN h;obtain⟨x,hx,h1⟩:=BN h0;obtain⟨cs,vp,hlen,vg,hk⟩:=BN h1;obtain⟨o,ho,rfl⟩:=hr.row tw;simp only[Ab]at hp;obtain⟨o',uz,xY,_,hp⟩:=hp;rw[ho]at uz;cases uz;obtain⟨_,_,b,hb,rfl⟩:=hp hg;obtain⟨ye,vF⟩:=QS vp hv;have uA:=hr.rows id o ho;obtain⟨zQ,cur,uP,uf,hle,vo,uL⟩:=uA.some b hb;have vh:i<o.row.xs.length:=(pB.1 hx).1;have xZ:=BV ye;have hxl:=(uA.lens x (oz hx)).1;have hbound:i*o.row.size+off+uv.cells.toList.length<=cur.size:=by
   rw[xZ,uf];have:(i+1)*o.row.size<=o.cap*o.row.size:=qC _ (by omega);rw[px]at this;omega
  have yv:∀u∈uv.cells.toList,u.oneCell'=true:=λu hu=>by
   obtain⟨j,hj⟩:=pZ.1 hu;have yN:j<cs.length:=by rw[<- xZ];exact (pB.1 hj).1
   obtain⟨u',vn,vf⟩:=CH ye j cs[j] (pG yN);rw[hj]at vn;cases vn;exact Pa (vF _ (rb yN)) vf
  have uW:=run_storeCells_at P b (i*o.row.size+off) o.row.elem uv.cells.toList 0 cur w uP (by simpa using hbound) yv;simp only[qp]at uW;have wQ:=hr.LR (k:=k) (o':={ o with row:={ o.row with xs:=o.row.xs.set i (HQ x off cs) } }) ho (w':=w.setRow b (cur.toList.take (i*o.row.size+off)++uv.cells.toList++cur.toList.drop (i*o.row.size+off+uv.cells.toList.length)).toArray)
   (by rw[hb];exact HF.setRow _ _ _) (pM _) rfl (λ_=>⟨rfl,rfl,by simp⟩) (λg hg=>.inl hg) (λuH=>by
    have hdp:LQ (w.setRow b (cur.toList.take (i*o.row.size+off)++uv.cells.toList++cur.toList.drop (i*o.row.size+off+uv.cells.toList.length)).toArray) { o with row:={ o.row with xs:=o.row.xs.set i (HQ x off cs) } }:=by
     obtain⟨D,d1,d2,d3⟩:=uA.deep;refine⟨D,d1,d2,λb' vG wa el l vH i' y j e s' ys hy hc=>?_⟩;simp only at vG hy⊢;rw[hb]at vG;cases vG;rw[sb w b cur _ _ _ uP]at vH;cases vH;have hold:∃y0,o.row.xs[i']?=some y0/\y0[j]?=some (.dv e s' ys)/\(i'≠i∨j<off∨off+cs.length<=j):=by
      by_cases hii:i'=i
      .subst hii;rw[pP vh,pD]at hy;subst hy;rw[Qu _ _ _ _ (by omega)]at hc;by_cases zR:j<off
       .rw[pJ zR]at hc;exact⟨x,hx,hc,.inr (.inl zR)⟩
       .rw[pK zR]at hc;by_cases hj2:j<off+cs.length
        .rw[pJ hj2]at hc;have:=vF _ (oz hc);simp[AV.leaf]at this
        .rw[pK hj2]at hc;exact⟨x,hx,hc,.inr (.inr (by omega))⟩
      .rw[pf (qw hii)]at hy;exact⟨y,hy,hc,.inl hii⟩
     obtain⟨y0,hy0,wT,uu⟩:=hold;obtain⟨u,q1,q2⟩:=d3 b hb cur _ _ uP i' y0 j e s' ys hy0 wT;have yN:j<o.row.size:=by rw[<- (uA.lens y0 (oz hy0)).1];exact (pB.1 wT).1
     refine⟨u,?_,Nl (λ_ h=>h) (λc wI=>setRow_other w b c _ λe=>?_) _ u q2⟩
     .rw[LA hbound,xZ];rcases ql i' i with uV|hii|hgt
      .have:(i'+1)*o.row.size<=i*o.row.size:=qC _ uV;rw[px]at this;rw[pJ (by omega)];exact q1
      .subst hii;rcases uu with uu|uu|uu
       .exact absurd rfl uu
       .rw[pJ (by omega)];exact q1
       .rw[pK (by omega),pK (by omega)];exact q1
      .have:(i+1)*o.row.size<=i'*o.row.size:=qC _ hgt;rw[px]at this;rw[pK (by omega),pK (by omega)];exact q1
     .subst e;exact (uA.mo _ (d1 _ _ _ wI)).2.2 hb
    refine⟨uA.pos,λy hy=>?_,(λhn=>by rw[hb]at hn;cases hn),λb' vG=>?_,λg hg=>⟨(uA.mo g hg).1,by simpa using (uA.mo g hg).2.1,(uA.mo g hg).2.2⟩,hdp⟩
    .rcases qV hy with hy|rfl
     .exact uA.lens y hy
     .refine⟨XY hxl (by simpa using vg),λc hc=>?_⟩;unfold HQ at hc;simp only[pY]at hc;rcases hc with (hc|hc)|hc
      .exact (uA.lens x (oz hx)).2 c (qd hc)
      .exact Di (vF c hc)
      .exact (uA.lens x (oz hx)).2 c (rA hc)
    .rw[hb]at vG;cases vG;refine⟨zQ,_,sb w b cur _ _ _ uP,?_,by simpa using hle,vo,λi' y hy j c hc=>?_⟩
     .simp only[rY,pW,rQ,re,rP] at *;omega
     .simp only at hy⊢;rw[LA hbound];by_cases hii:i'=i
      .subst hii;rw[pP vh,pD]at hy;subst hy;rw[Qu _ _ _ _ (by omega)]at hc;by_cases zR:j<off
       .rw[pJ zR]at hc;obtain⟨u,h1,h2⟩:=uL _ _ hx j c hc;exact⟨u,by rw[pJ (by omega)];exact h1,uH _ _ h2⟩
       .rw[pK zR]at hc;by_cases hj2:j<off+cs.length
        .rw[pJ hj2]at hc;obtain⟨u,h1,h2⟩:=CH ye _ _ hc;refine⟨u,?_,uH _ _ h2⟩;rw[pK (by omega),pJ (by rw[xZ];omega),<- h1];congr 1;omega
        .rw[pK hj2]at hc;obtain⟨u,h1,h2⟩:=uL _ _ hx j c hc;exact⟨u,by rw[pK (by omega),pK (by rw[xZ];omega)];exact h1,uH _ _ h2⟩
      .rw[pf (qw hii)]at hy;obtain⟨u,h1,h2⟩:=uL _ _ hy j c hc;have yN:j<o.row.size:=by rw[<- (uA.lens y (oz hy)).1];exact (pB.1 hc).1
       refine⟨u,?_,uH _ _ h2⟩;rcases Nat.lt_or_gt_of_ne hii with uV|hgt
       .have:(i'+1)*o.row.size<=i*o.row.size:=qC _ uV;rw[px]at this;rw[pJ (by omega)];exact h1
       .have:(i+1)*o.row.size<=i'*o.row.size:=qC _ hgt;rw[px]at this;rw[pK (by omega),pK (by rw[xZ];omega)];exact h1)
  refine⟨_,_,_,hk,?_,wQ.1,wQ.2.1⟩;have hszt:(sizeOf t).run P w=.ok ti.2 w:=by simp[sizeOf,typeInfo,hi,e2]
  have:uv.cells.size=ti.2:=by rw[<- hlen,<- xZ];simp
  simp[Instr.storeAt,Instr.sureAddr,storeVar,hszt,this,uW]
 |_=>exact h.elim
theorem Zk {t:TypeId}{l c:AV}{ul uc:Value}{K:AV->List Row->Prop}(hr:Rel F os s a w)(h:eU P s.st t l c K)(hl:Ab F w os l ul)(hc:Ab F w os c uc):Im P k F os s a w (Instr.makeSlice t ul uc) K:=by
 obtain⟨ei,he,h⟩:=BN h;obtain⟨inf,z,hu,hi,hz,wb,vA,uf,hby,hzero,hzl⟩:=HX he;cases l with
 |int kl n=>
  cases c with
  |int kc m=>
   obtain⟨rfl,h0,hb,hm,hk⟩:=h;simp only[Ab]at hl hc;subst hl;subst hc;obtain⟨N,rfl⟩:=pc h0;simp only[qQ]at hk;have uQ:=run_make (P:=P) w t ei.e inf z hu hi hz kl kc N N (by omega) (tK _) (by rw[<- hby,Int.mul_comm];omega) (by omega);simp only[qQ]at uQ;have hzl':ei.zero.length=ei.size:=by rw[hzero,uf,<- wb];simp
   have:=hr.PJ (k:=k) (.inl rfl) (cur:=madeCells z.cells (N*inf.size)) (e:=ei.e) (size:=ei.size) (cap:=N) (xs:=List.replicate N ei.zero) (by omega)
    (λx hx=>by rw[List.mem_replicate]at hx;rw[hx.2];exact⟨hzl',hzl⟩) (by rw[size_madeCells,uf]) (by simp) (by simp[maxLen];omega) (λi x hx j c hc=>by
     rw[List.getElem?_replicate]at hx;split at hx<;>simp only[pD,reduceCtorEq]at hx;subst hx;rename_i hiN;have yN:j<ei.size:=by rw[<- hzl'];exact (pB.1 hc).1
     have hj2:j<z.cells.size:=by omega
     refine⟨z.cells[j],?_,?_⟩
     .have uV:i*ei.size+j<N*inf.size:=by
       have:(i+1)*ei.size<=N*ei.size:=qC _ hiN;rw[px]at this;rw[<- uf];omega
      have yy:(i*ei.size+j) % z.cells.size=j:=by rw[wb,<- uf,tH,Nat.mul_add_mod];exact sC yN
      simp[madeCells,uV,yy,hj2]
     .rw[hzero]at hc;simp only[pC,qx,qi hj2,qG,pD]at hc;subst hc;exact Ms F w os _)
   refine⟨_,_,_,_,_,hk,uQ,this.1,?_,this.2.1⟩;simp only[Ab];refine⟨⟨⟨0,ei.e,ei.size,List.replicate N ei.zero⟩,some w.heap.size,N,GG⟩,by rw[hr.len];simp,by simp,⟨_,_,_,rfl⟩,λ_=>⟨by simp,.inr ⟨_,rfl,by simp⟩⟩⟩
  |_=>exact h.elim
 |_=>cases c<;>exact h.elim
structure Src (F:Nat->Prop) (w:World) (os:List Own) (u:Value) (ys:List (List AV)) (size:Nat):Prop where
 shape :∃ad c,u=.slice ad ys.length c/\(ys=[]∨∃b o,ad=some ⟨b,o,none⟩/\∀(i:Nat) y,ys[i]?=some y->NQ F w os b (o+i*size) y)
theorem X7 {x:AV}{u:Value}{size:Nat}{K:List (List AV)->Prop}(hr:Rel F os s a w)(h:bI s.st x λys=>(∀y∈ys,y.length=size)/\K ys)(hx:Ab F w os x u):∃ys,K ys/\(∀y∈ys,y.length=size)/\(ys=[]∨∀y∈ys,∀c∈y,c.leaf=true)/\Src F w os u ys size:=by
 cases x with
 |sl ys=>
  obtain⟨uf,hk⟩:=h;simp only[Ab]at hx;obtain⟨ad,cap,rfl,_,uu⟩:=hx;by_cases he:ys=[]
  .exact⟨ys,hk,uf,.inl he,⟨ad,cap,rfl,.inl he⟩⟩
  .obtain⟨b,o,sz,rfl,hb,hss,vm⟩:=uu he;refine⟨ys,hk,uf,.inr λy hy c hc=>?_,⟨_,cap,rfl,?_⟩⟩
   .obtain⟨i,hi⟩:=pZ.1 hy;obtain⟨j,hj⟩:=pZ.1 hc;obtain⟨_,_,h2,_⟩:=KZ (Iw hss vm i y hi) j c hj;exact h2
   have:sz=size:=by
    obtain⟨y,hy⟩:=List.exists_mem_of_ne_nil ys he;rw[<- hss y hy,uf y hy]
   subst this;exact .inr ⟨b,o,rfl,λi y hy=>L7 (Iw hss vm i y hy)⟩
 |zc=>
  obtain⟨uf,hk⟩:=h;simp only[Ab]at hx;obtain⟨ad,rfl⟩:=hx;exact⟨[],hk,by simp,.inl rfl,⟨ad,0,rfl,.inl rfl⟩⟩
 |own id g n=>
  obtain⟨row,tw,hg,vT,hnw,uf,hk⟩:=BN h;obtain⟨o,ho,rfl⟩:=hr.row tw;simp only[Ab]at hx;obtain⟨o',uz,xY,_,hx⟩:=hx;rw[ho]at uz;cases uz;obtain⟨hle,hx⟩:=hx hg;simp only[NG hnw]at hx;refine⟨_,hk,uf,.inr (λy hy=>vT y (qd hy)),?_⟩;have hlen:(o.row.xs.take n).length=n:=by simp;omega
  rcases hx with ⟨hb,ad,rfl⟩|⟨b,hb,rfl⟩
  .have:=((hr.rows id o ho).none hb).1;exact⟨ad,0,by rw[hlen],.inl (by rw[this];simp)⟩
  .refine⟨_,o.cap,by rw[hlen],.inr ⟨b,0,rfl,λi y hy=>?_⟩⟩;have hy0:=hy;rw[po]at hy;split at hy
   .have h1:=hr.O0 ho hb hy;have:o.row.size=size:=by
     rw[<- uf y (oz hy0)];exact (((hr.rows id o ho).lens y (oz hy)).1).symm
    rw[this]at h1;simpa using h1
   .cases hy
 |_=>exact h.elim
theorem RX {b o size:Nat}{ys:List (List AV)}(uf :∀y∈ys,y.length=size)(h :∀(i:Nat) y,ys[i]?=some y->NQ F w os b (o+i*size) y):
  ∃us:List Value,us.length=ys.length*size/\(∀(j:Nat) u,us[j]?=some u->w.cell? ((⟨b,o,none⟩:Addr).add j)=some u)/\(∀u∈us,u.oneCell'=true)/\
   ∀(i:Nat) y,ys[i]?=some y->∀(j:Nat) c,y[j]?=some c->∃u,us[i*size+j]?=some u/\c.kept=true/\Ab F w os c u:=by
 have hat:∀j,j<ys.length*size->∃i y c,j=i*size+j % size/\ys[i]?=some y/\y[j % size]?=some c:=λj hj=>by
  have vA:0<size:=Nat.pos_of_ne_zero (by rintro rfl;simp at hj);have hi:j / size<ys.length:=by rw[Nat.div_lt_iff_lt_mul vA];exact hj
  have hjm:j % size<(ys[j / size]).length:=by rw[uf _ (rb hi)];exact Nat.mod_lt _ vA
  exact⟨j / size,ys[j / size],(ys[j / size])[j % size],by rw[tH];exact (Nat.div_add_mod j size).symm,pG hi,pG hjm⟩
 refine⟨(List.range (ys.length*size)).map λj=>(w.cell? ((⟨b,o,none⟩:Addr).add j)).getD undef,by simp,λj u hu=>?_,λu hu=>?_,λi y hy j c hc=>?_⟩
 .have hj:j<ys.length*size:=by have:=(pB.1 hu).1;simpa using this
  simp only[pC,rS hj,qG,pD]at hu;obtain⟨i,y,c,he,hy,hc⟩:=hat j hj;obtain⟨u',h1,_⟩:=h i y hy _ c hc;rw[Cf,he,<- qe]at hu⊢;rw[h1]at hu⊢;simp only[rL]at hu;rw[hu]
 .obtain⟨j,hj,rfl⟩:=pS.1 hu;rw[rF]at hj;obtain⟨i,y,c,he,hy,hc⟩:=hat j hj;obtain⟨u',h1,h2,h3⟩:=h i y hy _ c hc;rw[Cf,he,<- qe,h1];exact ZI h2 h3
 .have hi:=(pB.1 hy).1;have yN:j<size:=by rw[<- uf y (oz hy)];exact (pB.1 hc).1
  obtain⟨u,h1,h2,h3⟩:=h i y hy j c hc;have uV:i*size+j<ys.length*size:=by
   have:(i+1)*size<=ys.length*size:=qC _ hi;rw[px]at this;omega
  refine⟨u,?_,h2,h3⟩;simp only[pC,rS uV,qG,Cf,<- qe,h1,rL]
end Go.Abs
