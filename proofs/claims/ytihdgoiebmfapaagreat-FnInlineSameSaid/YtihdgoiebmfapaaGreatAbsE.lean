import Derived.Test.YtihdgoiebmfapaaGreatAbsD
set_option linter.all false
namespace Go.Abs
open Go
def J9 (v:AV):Option (List AV):=
 match v with
 |.agg cs=>if cs.all AV.leaf then some cs else none
 |v=>if v.leaf then some [v] else none
def IK (P:Program)(e:TypeId):Option (List AV):=
 match P.info? e with
 |some i=>match i.zero with
  |some z=>if (z.cells.toList.map OC).all AV.leaf&&!z.cells.isEmpty then some (z.cells.toList.map OC) else none
  |none=>none
 |none=>none
def HL (x:List AV)(off:Nat)(cs:List AV):List AV:=x.take off++cs++x.drop (off+cs.length)
def fR (P:Program)(e:TypeId)(st:List Row)(K:AV->List Row->Prop):Prop:=
 GK (IK P e) λz=>K (.ptr st.length 0 0 0) (st++[⟨0,e,z.length,[z]⟩])
def mC (e:TypeId)(st:List Row)(v:AV)(K:AV->List Row->Prop):Prop:=
 GK (J9 v) λcs=>cs≠[]/\K (.ptr st.length 0 0 0) (st++[⟨0,e,cs.length,[cs]⟩])
def Zy (P:Program)(st:List Row)(t:TypeId)(p v:AV)(K:List Row->Prop):Prop:=
 GK (Dc P t) λti=>match p with
  |.ptr id g i off=>GK st[id]? λrow=>row.gen=g/\GK row.xs[i]? λx=>GK (J9 v) λcs=>
    cs.length=ti.2/\off+cs.length<=row.size/\K (st.set id { row with xs:=row.xs.set i (HL x off cs) })
  |_=>False
def eX (P:Program)(st:List Row)(t:TypeId)(l c:AV)(K:AV->List Row->Prop):Prop:=
 GK (DB P t) λei=>match l,c with
  |.int _ n,.int _ m=>n=m/\0<=n/\n*(ei.bytes:Int)<=281474976710656/\n<=9223372036854775807/\K (.own st.length 0 n.toNat) (st++[⟨0,ei.e,ei.size,List.replicate n.toNat ei.zero⟩])
  |_,_=>False
def aT (st:List Row)(x:AV)(K:List (List AV)->Prop):Prop:=
 match x with
 |.sl ys=>K ys
 |.zc=>K []
 |.own id g n=>GK st[id]? λrow=>row.gen=g/\(∀y∈row.xs,∀c∈y,c.leaf=true)/\n=row.xs.length/\K (row.xs.take n)
 |_=>False
def X8 (P:Program)(st:List Row)(t:TypeId)(d x:AV)(K:AV->List Row->Prop):Prop:=
 GK (DB P t) λei=>aT st x λys=>(∀y∈ys,y.length=ei.size)/\match d with
  |.zc=>ys.length*ei.bytes<=140737488355328/\ys.length<=9223372036854775807/\K (.own st.length 0 ys.length) (st++[⟨0,ei.e,ei.size,ys⟩])
  |.own id g n=>GK st[id]? λrow=>row.gen=g/\n=row.xs.length/\row.elem=ei.e/\row.size=ei.size/\(n+ys.length)*ei.bytes<=140737488355328/\n+ys.length<=9223372036854775807/\
    K (.own id (g+1) (n+ys.length)) (st.set id { row with gen:=g+1,xs:=row.xs.take n++ys })
  |_=>False
variable {P : Program} {F : Nat -> Prop} {os : List Own} {s : St} {a : Act} {w : World} {k : Nat}
def Ig (P:Program)(k:Nat)(F:Nat->Prop)(os:List Own)(s:St)(a:Act)(w:World)(yc:Sem Value)(K:AV->List Row->Prop):Prop:=
 ∃v st' u w' os',K v st'/\yc.run P w=.ok u w'/\Rel F os' { s with st:=st' } a w'/\Ab F w' os' v u/\Ext F os w F os' w' k
theorem Rel.len (hr:Rel F os s a w):s.st.length=os.length:=by rw[<- hr.st];simp
theorem cx (hr:Rel F os s a w){w':World}{o:Own}(hb:o.GA=some w.heap.size)(hx:0<o.row.xs.length)(hg:o.row.gen=0):Ab F w' (os++[o]) (.ptr s.st.length 0 0 0) (.pointer (some ⟨w.heap.size,0,none⟩)):=by
 simp only[Ab];exact⟨o,by rw[hr.len];simp,by omega,⟨_,rfl⟩,λ_=>⟨hx,pT _,_,hb,by simp⟩⟩
theorem Qd {v:AV}{u:Value}{cs:List AV}(h:J9 v=some cs)(hv:Ab F w os v u):Br F w os cs u.cells.toList/\(∀c∈cs,c.leaf=true):=by
 cases v with
 |agg xs=>
  simp only[J9]at h;split at h<;>simp only[pC,reduceCtorEq]at h;subst h;rename_i hl;simp only[Ab]at hv;obtain⟨us,rfl,hus⟩:=hv;exact⟨by simpa [Value.cells] using hus,λc hc=>pG.1 hl c hc⟩
 |_=>
  simp only[J9]at h;split at h<;>simp only[pC,reduceCtorEq]at h;subst h;rename_i hl;refine⟨?_,by simpa using hl⟩;have h1:=O9 hl hv;have:u.cells.toList=[u]:=by cases u<;>simp_all [Value.cells,Value.oneCell']
  rw[this];simp only[Br];exact⟨u,[],rfl,hv,rfl⟩
theorem YN (hr:Rel F os s a w){e:TypeId}{v:Value}{cs:List AV}(hl:Br F w os cs v.cells.toList)(vE :∀c∈cs,c.leaf=true)(uq:cs≠[]){K:AV->List Row->Prop}
  (hk:K (.ptr s.st.length 0 0 0) (s.st++[⟨0,e,cs.length,[cs]⟩])):Ig P k F os s a w (do pure (.pointer (some (← newVar e v)))) K:=by
 have hlen:=BX hl;simp only[rO]at hlen;have uz:0<cs.length:=sc.2 uq;have:=hr.PN (k:=k) (.inl rfl) (cur:=v.cells) (e:=e) (size:=cs.length) (cap:=1) (xs:=[cs]) uz (by simpa using vE) (by simpa using hlen) (by simp) (by simp[maxLen]) (λi x hx j c hc=>by
  cases i with
  |zero=>
   simp only[ph,pC]at hx;subst hx;obtain⟨u,h1,h2⟩:=CH hl j c hc;exact⟨u,by simpa using h1,h2⟩
  | succ i=>simp at hx)
 refine⟨_,_,.pointer (some ⟨w.heap.size,0,none⟩),_,_,hk,?_,this.1,cx hr rfl (by simp) rfl,this.2.1⟩;simp[newVar,newRow]
theorem ir {e:TypeId}{v:AV}{u:Value}{K:AV->List Row->Prop}(hr:Rel F os s a w)(h:mC e s.st v K)(hv:Ab F w os v u):Ig P k F os s a w (Instr.box e u) K:=by
 obtain⟨cs,vq,uq,hk⟩:=BN h;obtain⟨h1,h2⟩:=Qd vq hv;exact YN hr h1 h2 uq hk
theorem V3 {e:TypeId}{z:List AV}(h:IK P e=some z):∃i v,P.info? e=some i/\i.zero=some v/\z=v.cells.toList.map OC/\(∀c∈z,c.leaf=true)/\z≠[]:=by
 unfold IK at h;split at h<;>try (cases h;done)
 rename_i i hi;split at h<;>try (cases h;done)
 rename_i v hv;split at h<;>try (cases h;done)
 rename_i hc;simp only[pZ,sQ,Array.isEmpty_eq_false_iff]at hc;simp only[pC]at h;subst h;refine⟨i,v,hi,hv,rfl,λc hm=>pG.1 hc.1 c hm,?_⟩;simpa using hc.2
theorem dq {e:TypeId}{K:AV->List Row->Prop}(hr:Rel F os s a w)(h:fR P e s.st K):Ig P k F os s a w (Instr.alloc e true (.tuple #[])) K:=by
 obtain⟨z,hz,hk⟩:=BN h;obtain⟨i,v,hi,hv,rfl,hl,uq⟩:=V3 hz;obtain⟨x,st',u,w',os',h1,h2,h3⟩:=YN (P:=P) (k:=k) (v:=v) hr (PU F w os _) hl uq hk;refine⟨x,st',u,w',os',h1,?_,h3⟩;have hz':(zeroValue e).run P w=.ok v w:=by simp[zeroValue,typeInfo,hi,hv]
 simpa [Instr.alloc,hz'] using h2
theorem XP {x cs:List AV}{off n:Nat}(hx:x.length=n)(h:off+cs.length<=n):(HL x off cs).length=n:=by
 simp[HL];omega
theorem Q4 (x cs:List AV)(off j:Nat)(hoff:off<=x.length):(HL x off cs)[j]?=if j<off then x[j]? else if j<off+cs.length then cs[j-off]? else x[j]?:=by
 unfold HL;by_cases h1:j<off
 .rw[pI h1,qe,pM (by simp;omega),pn,pI h1]
 .rw[pJ h1];by_cases h2:j<off+cs.length
  .rw[pI h2,pM (by simp;omega),pN (by simp;omega)];simp[sL hoff]
  .rw[pJ h2,pN (by simp;omega),qH];congr 1;simp[sL hoff];omega
theorem LA {cur:Array Value}{us:List Value}{p j:Nat}(h:p+us.length<=cur.size):
  ((cur.toList.take p++us++cur.toList.drop (p+us.length)).toArray)[j]?=if j<p then cur[j]? else if j<p+us.length then us[j-p]? else cur[j]?:=by
 simp only[rq];by_cases h1:j<p
 .rw[pI h1,qe,pM (by simp;omega),pn,pI h1];simp
 .rw[pJ h1];by_cases h2:j<p+us.length
  .rw[pI h2,pM (by simp;omega),pN (by simp;omega)];congr 1;simp;omega
  .rw[pJ h2,pN (by simp;omega),qH];simp only[pU,rP,rO,qw];congr 1;omega
theorem ec {t:TypeId}{p v:AV}{up uv:Value}{K:List Row->Prop}(hr:Rel F os s a w)(h:Zy P s.st t p v K)(hp:Ab F w os p up)(hv:Ab F w os v uv):
  ∃st' w' os',K st'/\(Instr.storeAt t up uv).run P w=.ok () w'/\Rel F os' { s with st:=st' } a w'/\Ext F os w F os' w' k:=by
 obtain⟨ti,ht,h⟩:=BN h;obtain⟨d,inf,hud,hi,_,e2⟩:=Js ht;cases p with
 |ptr id g i off=>
  obtain⟨row,tv,hg,h0⟩:=BN h;obtain⟨x,hx,h1⟩:=BN h0;obtain⟨cs,vq,hlen,vh,hk⟩:=BN h1;obtain⟨o,ho,rfl⟩:=hr.row tv;simp only[Ab]at hp;obtain⟨o',uw,xX,_,hp⟩:=hp;rw[ho]at uw;cases uw;obtain⟨_,_,b,hb,rfl⟩:=hp hg;obtain⟨ye,vE⟩:=Qd vq hv;have tz:=hr.rows id o ho;obtain⟨zP,cur,uO,ue,hle,vp,uK⟩:=tz.some b hb;have vk:i<o.row.xs.length:=(pA.1 hx).1;have xY:=BX ye;have hxl:=(tz.lens x (ov hx)).1;have hbound:i*o.row.size+off+uv.cells.toList.length<=cur.size:=by
   rw[xY,ue];have:(i+1)*o.row.size<=o.cap*o.row.size:=qB _ (by omega);rw[pt]at this;omega
  have yv:∀u∈uv.cells.toList,u.oneCell'=true:=λu hu=>by
   obtain⟨j,hj⟩:=pY.1 hu;have yO:j<cs.length:=by rw[<- xY];exact (pA.1 hj).1
   obtain⟨u',vo,vg⟩:=CH ye j cs[j] (pF yO);rw[hj]at vo;cases vo;exact O9 (vE _ (ra yO)) vg
  have uV:=run_storeCells_at P b (i*o.row.size+off) o.row.elem uv.cells.toList 0 cur w uO (by simpa using hbound) yv;simp only[qo]at uV;have wP:=hr.LM (k:=k) (o':={ o with row:={ o.row with xs:=o.row.xs.set i (HL x off cs) } }) ho (w':=w.setRow b (cur.toList.take (i*o.row.size+off)++uv.cells.toList++cur.toList.drop (i*o.row.size+off+uv.cells.toList.length)).toArray)
   (by rw[hb];exact HA.setRow _ _ _) (pL _) rfl (λ_=>⟨rfl,rfl,by simp⟩) (λg hg=>.inl hg) (λuG=>by
    have hdp:LX (w.setRow b (cur.toList.take (i*o.row.size+off)++uv.cells.toList++cur.toList.drop (i*o.row.size+off+uv.cells.toList.length)).toArray) { o with row:={ o.row with xs:=o.row.xs.set i (HL x off cs) } }:=by
     obtain⟨D,d1,d2,d3⟩:=tz.deep;refine⟨D,d1,d2,λb' vF wa el l vG i' y j e s' ys hy hc=>?_⟩;simp only at vF hy⊢;rw[hb]at vF;cases vF;rw[sa w b cur _ _ _ uO]at vG;cases vG;have hold:∃y0,o.row.xs[i']?=some y0/\y0[j]?=some (.dv e s' ys)/\(i'≠i∨j<off∨off+cs.length<=j):=by
      by_cases hii:i'=i
      .subst hii;rw[pO vk,pC]at hy;subst hy;rw[Q4 _ _ _ _ (by omega)]at hc;by_cases zQ:j<off
       .rw[pI zQ]at hc;exact⟨x,hx,hc,.inr (.inl zQ)⟩
       .rw[pJ zQ]at hc;by_cases hj2:j<off+cs.length
        .rw[pI hj2]at hc;have:=vE _ (ov hc);simp[AV.leaf]at this
        .rw[pJ hj2]at hc;exact⟨x,hx,hc,.inr (.inr (by omega))⟩
      .rw[pd (qv hii)]at hy;exact⟨y,hy,hc,.inl hii⟩
     obtain⟨y0,hy0,wS,uq⟩:=hold;obtain⟨u,q1,q2⟩:=d3 b hb cur _ _ uO i' y0 j e s' ys hy0 wS;have yO:j<o.row.size:=by rw[<- (tz.lens y0 (ov hy0)).1];exact (pA.1 wS).1
     refine⟨u,?_,NR (λ_ h=>h) (λc wH=>setRow_other w b c _ λe=>?_) _ u q2⟩
     .rw[LA hbound,xY];rcases qk i' i with uU|hii|hgt
      .have:(i'+1)*o.row.size<=i*o.row.size:=qB _ uU;rw[pt]at this;rw[pI (by omega)];exact q1
      .subst hii;rcases uq with uq|uq|uq
       .exact absurd rfl uq
       .rw[pI (by omega)];exact q1
       .rw[pJ (by omega),pJ (by omega)];exact q1
      .have:(i+1)*o.row.size<=i'*o.row.size:=qB _ hgt;rw[pt]at this;rw[pJ (by omega),pJ (by omega)];exact q1
     .subst e;exact (tz.mo _ (d1 _ _ _ wH)).2.2 hb
    refine⟨tz.pos,λy hy=>?_,(λhn=>by rw[hb]at hn;cases hn),λb' vF=>?_,λg hg=>⟨(tz.mo g hg).1,by simpa using (tz.mo g hg).2.1,(tz.mo g hg).2.2⟩,hdp⟩
    .rcases qU hy with hy|rfl
     .exact tz.lens y hy
     .refine⟨XP hxl (by simpa using vh),λc hc=>?_⟩;unfold HL at hc;simp only[pX]at hc;rcases hc with (hc|hc)|hc
      .exact (tz.lens x (ov hx)).2 c (qc hc)
      .exact Dg (vE c hc)
      .exact (tz.lens x (ov hx)).2 c (qz hc)
    .rw[hb]at vF;cases vF;refine⟨zP,_,sa w b cur _ _ _ uO,?_,by simpa using hle,vp,λi' y hy j c hc=>?_⟩
     .simp only[rX,pU,rP,rb,rO] at *;omega
     .simp only at hy⊢;rw[LA hbound];by_cases hii:i'=i
      .subst hii;rw[pO vk,pC]at hy;subst hy;rw[Q4 _ _ _ _ (by omega)]at hc;by_cases zQ:j<off
       .rw[pI zQ]at hc;obtain⟨u,h1,h2⟩:=uK _ _ hx j c hc;exact⟨u,by rw[pI (by omega)];exact h1,uG _ _ h2⟩
       .rw[pJ zQ]at hc;by_cases hj2:j<off+cs.length
        .rw[pI hj2]at hc;obtain⟨u,h1,h2⟩:=CH ye _ _ hc;refine⟨u,?_,uG _ _ h2⟩;rw[pJ (by omega),pI (by rw[xY];omega),<- h1];congr 1;omega
        .rw[pJ hj2]at hc;obtain⟨u,h1,h2⟩:=uK _ _ hx j c hc;exact⟨u,by rw[pJ (by omega),pJ (by rw[xY];omega)];exact h1,uG _ _ h2⟩
      .rw[pd (qv hii)]at hy;obtain⟨u,h1,h2⟩:=uK _ _ hy j c hc;have yO:j<o.row.size:=by rw[<- (tz.lens y (ov hy)).1];exact (pA.1 hc).1
       refine⟨u,?_,uG _ _ h2⟩;rcases Nat.lt_or_gt_of_ne hii with uU|hgt
       .have:(i'+1)*o.row.size<=i*o.row.size:=qB _ uU;rw[pt]at this;rw[pI (by omega)];exact h1
       .have:(i+1)*o.row.size<=i'*o.row.size:=qB _ hgt;rw[pt]at this;rw[pJ (by omega),pJ (by rw[xY];omega)];exact h1)
  refine⟨_,_,_,hk,?_,wP.1,wP.2.1⟩;have hszt:(sizeOf t).run P w=.ok ti.2 w:=by simp[sizeOf,typeInfo,hi,e2]
  have:uv.cells.size=ti.2:=by rw[<- hlen,<- xY];simp
  simp[Instr.storeAt,Instr.sureAddr,storeVar,hszt,this,uV]
 |_=>exact h.elim
theorem Zp {t:TypeId}{l c:AV}{ul uc:Value}{K:AV->List Row->Prop}(hr:Rel F os s a w)(h:eX P s.st t l c K)(hl:Ab F w os l ul)(hc:Ab F w os c uc):Ig P k F os s a w (Instr.makeSlice t ul uc) K:=by
 obtain⟨ei,he,h⟩:=BN h;obtain⟨inf,z,hu,hi,hz,wb,uz,ue,hby,hzero,hzl⟩:=HP he;cases l with
 |int kl n=>
  cases c with
  |int kc m=>
   obtain⟨rfl,h0,hb,hm,hk⟩:=h;simp only[Ab]at hl hc;subst hl;subst hc;obtain⟨N,rfl⟩:=pb h0;simp only[qP]at hk;have uP:=run_make (P:=P) w t ei.e inf z hu hi hz kl kc N N (by omega) (tJ _) (by rw[<- hby,Int.mul_comm];omega) (by omega);simp only[qP]at uP;have hzl':ei.zero.length=ei.size:=by rw[hzero,ue,<- wb];simp
   have:=hr.PN (k:=k) (.inl rfl) (cur:=madeCells z.cells (N*inf.size)) (e:=ei.e) (size:=ei.size) (cap:=N) (xs:=List.replicate N ei.zero) (by omega)
    (λx hx=>by rw[List.mem_replicate]at hx;rw[hx.2];exact⟨hzl',hzl⟩) (by rw[size_madeCells,ue]) (by simp) (by simp[maxLen];omega) (λi x hx j c hc=>by
     rw[List.getElem?_replicate]at hx;split at hx<;>simp only[pC,reduceCtorEq]at hx;subst hx;rename_i hiN;have yO:j<ei.size:=by rw[<- hzl'];exact (pA.1 hc).1
     have hj2:j<z.cells.size:=by omega
     refine⟨z.cells[j],?_,?_⟩
     .have uU:i*ei.size+j<N*inf.size:=by
       have:(i+1)*ei.size<=N*ei.size:=qB _ hiN;rw[pt]at this;rw[<- ue];omega
      have yy:(i*ei.size+j) % z.cells.size=j:=by rw[wb,<- ue,tG,Nat.mul_add_mod];exact sB yO
      simp[madeCells,uU,yy,hj2]
     .rw[hzero]at hc;simp only[pB,qw,qh hj2,qF,pC]at hc;subst hc;exact Mt F w os _)
   refine⟨_,_,_,_,_,hk,uP,this.1,?_,this.2.1⟩;simp only[Ab];refine⟨⟨⟨0,ei.e,ei.size,List.replicate N ei.zero⟩,some w.heap.size,N,GF⟩,by rw[hr.len];simp,by simp,⟨_,_,_,rfl⟩,λ_=>⟨by simp,.inr ⟨_,rfl,by simp⟩⟩⟩
  |_=>exact h.elim
 |_=>cases c<;>exact h.elim
structure Src (F:Nat->Prop) (w:World) (os:List Own) (u:Value) (ys:List (List AV)) (size:Nat):Prop where
 shape :∃ad c,u=.slice ad ys.length c/\(ys=[]∨∃b o,ad=some ⟨b,o,none⟩/\∀(i:Nat) y,ys[i]?=some y->Nh F w os b (o+i*size) y)
theorem YF {x:AV}{u:Value}{size:Nat}{K:List (List AV)->Prop}(hr:Rel F os s a w)(h:aT s.st x λys=>(∀y∈ys,y.length=size)/\K ys)(hx:Ab F w os x u):∃ys,K ys/\(∀y∈ys,y.length=size)/\(ys=[]∨∀y∈ys,∀c∈y,c.leaf=true)/\Src F w os u ys size:=by
 cases x with
 |sl ys=>
  obtain⟨ue,hk⟩:=h;simp only[Ab]at hx;obtain⟨ad,cap,rfl,_,uq⟩:=hx;by_cases he:ys=[]
  .exact⟨ys,hk,ue,.inl he,⟨ad,cap,rfl,.inl he⟩⟩
  .obtain⟨b,o,sz,rfl,hb,hss,vn⟩:=uq he;refine⟨ys,hk,ue,.inr λy hy c hc=>?_,⟨_,cap,rfl,?_⟩⟩
   .obtain⟨i,hi⟩:=pY.1 hy;obtain⟨j,hj⟩:=pY.1 hc;obtain⟨_,_,h2,_⟩:=KZ (Iv hss vn i y hi) j c hj;exact h2
   have:sz=size:=by
    obtain⟨y,hy⟩:=List.exists_mem_of_ne_nil ys he;rw[<- hss y hy,ue y hy]
   subst this;exact .inr ⟨b,o,rfl,λi y hy=>L7 (Iv hss vn i y hy)⟩
 |zc=>
  obtain⟨ue,hk⟩:=h;simp only[Ab]at hx;obtain⟨ad,rfl⟩:=hx;exact⟨[],hk,by simp,.inl rfl,⟨ad,0,rfl,.inl rfl⟩⟩
 |own id g n=>
  obtain⟨row,tv,hg,vS,hnw,ue,hk⟩:=BN h;obtain⟨o,ho,rfl⟩:=hr.row tv;simp only[Ab]at hx;obtain⟨o',uw,xX,_,hx⟩:=hx;rw[ho]at uw;cases uw;obtain⟨hle,hx⟩:=hx hg;simp only[NF hnw]at hx;refine⟨_,hk,ue,.inr (λy hy=>vS y (qc hy)),?_⟩;have hlen:(o.row.xs.take n).length=n:=by simp;omega
  rcases hx with ⟨hb,ad,rfl⟩|⟨b,hb,rfl⟩
  .have:=((hr.rows id o ho).none hb).1;exact⟨ad,0,by rw[hlen],.inl (by rw[this];simp)⟩
  .refine⟨_,o.cap,by rw[hlen],.inr ⟨b,0,rfl,λi y hy=>?_⟩⟩;have hy0:=hy;rw[pn]at hy;split at hy
   .have h1:=hr.Oz ho hb hy;have:o.row.size=size:=by
     rw[<- ue y (ov hy0)];exact (((hr.rows id o ho).lens y (ov hy)).1).symm
    rw[this]at h1;simpa using h1
   .cases hy
 |_=>exact h.elim
theorem RT {b o size:Nat}{ys:List (List AV)}(ue :∀y∈ys,y.length=size)(h :∀(i:Nat) y,ys[i]?=some y->Nh F w os b (o+i*size) y):
  ∃us:List Value,us.length=ys.length*size/\(∀(j:Nat) u,us[j]?=some u->w.cell? ((⟨b,o,none⟩:Addr).add j)=some u)/\(∀u∈us,u.oneCell'=true)/\
   ∀(i:Nat) y,ys[i]?=some y->∀(j:Nat) c,y[j]?=some c->∃u,us[i*size+j]?=some u/\c.kept=true/\Ab F w os c u:=by
 have hat:∀j,j<ys.length*size->∃i y c,j=i*size+j % size/\ys[i]?=some y/\y[j % size]?=some c:=λj hj=>by
  have uz:0<size:=Nat.pos_of_ne_zero (by rintro rfl;simp at hj);have hi:j / size<ys.length:=by rw[Nat.div_lt_iff_lt_mul uz];exact hj
  have hjm:j % size<(ys[j / size]).length:=by rw[ue _ (ra hi)];exact Nat.mod_lt _ uz
  exact⟨j / size,ys[j / size],(ys[j / size])[j % size],by rw[tG];exact (Nat.div_add_mod j size).symm,pF hi,pF hjm⟩
 refine⟨(List.range (ys.length*size)).map λj=>(w.cell? ((⟨b,o,none⟩:Addr).add j)).getD undef,by simp,λj u hu=>?_,λu hu=>?_,λi y hy j c hc=>?_⟩
 .have hj:j<ys.length*size:=by have:=(pA.1 hu).1;simpa using this
  simp only[pB,rR hj,qF,pC]at hu;obtain⟨i,y,c,he,hy,hc⟩:=hat j hj;obtain⟨u',h1,_⟩:=h i y hy _ c hc;rw[Ce,he,<- qd]at hu⊢;rw[h1]at hu⊢;simp only[rK]at hu;rw[hu]
 .obtain⟨j,hj,rfl⟩:=pQ.1 hu;rw[rE]at hj;obtain⟨i,y,c,he,hy,hc⟩:=hat j hj;obtain⟨u',h1,h2,h3⟩:=h i y hy _ c hc;rw[Ce,he,<- qd,h1];exact Yv h2 h3
 .have hi:=(pA.1 hy).1;have yO:j<size:=by rw[<- ue y (ov hy)];exact (pA.1 hc).1
  obtain⟨u,h1,h2,h3⟩:=h i y hy j c hc;have uU:i*size+j<ys.length*size:=by
   have:(i+1)*size<=ys.length*size:=qB _ hi;rw[pt]at this;omega
  refine⟨u,?_,h2,h3⟩;simp only[pB,rR uU,qF,Ce,<- qd,h1,rK]
end Go.Abs
