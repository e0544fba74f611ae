import Derived.Test.YtccficmcdkcpnaaGreatAbsD
set_option linter.all false
namespace Go.Abs
open Go
def Lo (v:AV):Option (List AV):=
 match v with
 | .agg cs=>if cs.all AV.leaf then some cs else none
 | v=>if v.leaf then some [v] else none
def HN (P:Program)(e:TypeId):Option (List AV):=
 match P.info? e with
 | some i=>match i.zero with
  | some z=>if (z.cells.toList.map PK).all AV.leaf&&!z.cells.isEmpty then some (z.cells.toList.map PK) else none
  | none=>none
 | none=>none
def IK (x:List AV)(off:Nat)(cs:List AV):List AV:=x.take off++cs++x.drop (off+cs.length)
def fq (P:Program)(e:TypeId)(st:List Row)(K:AV->List Row->Prop):Prop:=
 Gb (HN P e) λz=>K (.ptr st.length 0 0 0) (st++[⟨0,e,z.length,[z]⟩])
def nB (e:TypeId)(st:List Row)(v:AV)(K:AV->List Row->Prop):Prop:=
 Gb (Lo v) λcs=>cs≠[]/\K (.ptr st.length 0 0 0) (st++[⟨0,e,cs.length,[cs]⟩])
def Z5 (P:Program)(st:List Row)(t:TypeId)(p v:AV)(K:List Row->Prop):Prop:=
 Gb (De P t) λti=>match p with
  | .ptr id g i off=>Gb st[id]? λrow=>row.gen=g/\Gb row.xs[i]? λx=>Gb (Lo v) λcs=>
    cs.length=ti.2/\off+cs.length<=row.size/\K (st.set id { row with xs:=row.xs.set i (IK x off cs) })
  | _=>False
def eE (P:Program)(st:List Row)(t:TypeId)(l c:AV)(K:AV->List Row->Prop):Prop:=
 Gb (DR P t) λei=>match l,c with
  | .int _ n,.int _ m=>n=m/\0<=n/\n*(ei.bytes:Int)<=281474976710656/\n<=9223372036854775807/\K (.own st.length 0 n.toNat) (st++[⟨0,ei.e,ei.size,List.replicate n.toNat ei.zero⟩])
  | _,_=>False
def aJ (st:List Row)(x:AV)(K:List (List AV)->Prop):Prop:=
 match x with
 | .sl ys=>K ys
 | .zc=>K []
 | .own id g n=>Gb st[id]? λrow=>row.gen=g/\(∀y∈row.xs,∀c∈y,c.leaf=true)/\n=row.xs.length/\K (row.xs.take n)
 | _=>False
def Yc (P:Program)(st:List Row)(t:TypeId)(d x:AV)(K:AV->List Row->Prop):Prop:=
 Gb (DR P t) λei=>aJ st x λys=>(∀y∈ys,y.length=ei.size)/\match d with
  | .zc=>ys.length*ei.bytes<=140737488355328/\ys.length<=9223372036854775807/\K (.own st.length 0 ys.length) (st++[⟨0,ei.e,ei.size,ys⟩])
  | .own id g n=>Gb st[id]? λrow=>row.gen=g/\n=row.xs.length/\row.elem=ei.e/\row.size=ei.size/\(n+ys.length)*ei.bytes<=140737488355328/\n+ys.length<=9223372036854775807/\
    K (.own id (g+1) (n+ys.length)) (st.set id { row with gen:=g+1,xs:=row.xs.take n++ys })
  | _=>False
variable {P : Program} {F : Nat -> Prop} {os : List Own} {s : St} {a : Act} {w : World} {k : Nat}
def Iu (P:Program)(k:Nat)(F:Nat->Prop)(os:List Own)(s:St)(a:Act)(w:World)(zO:Sem Value)(K:AV->List Row->Prop):Prop:=
 ∃v st' u w' os',K v st'/\zO.run P w=.ok u w'/\Rel F os' { s with st:=st' } a w'/\Ac F w' os' v u/\Ext F os w F os' w' k
theorem Rel.len (hr:Rel F os s a w):s.st.length=os.length:=by rw[<- hr.st];simp
theorem cm (hr:Rel F os s a w){w':World}{o:Own}(hb:o.GB=some w.heap.size)(hx:0<o.row.xs.length)(hg:o.row.gen=0):Ac F w' (os++[o]) (.ptr s.st.length 0 0 0) (.pointer (some ⟨w.heap.size,0,none⟩)):=by
 simp only[Ac];exact⟨o,by rw[hr.len];simp,by omega,⟨_,rfl⟩,λ_=>⟨hx,qd _,_,hb,by simp⟩⟩
theorem SQ {v:AV}{u:Value}{cs:List AV}(h:Lo v=some cs)(hv:Ac F w os v u):Bw F w os cs u.cells.toList/\(∀c∈cs,c.leaf=true):=by
 cases v with
 | agg xs=>
  simp only[Lo]at h;split at h<;>simp only[pz,reduceCtorEq]at h;subst h;rename_i hl;simp only[Ac]at hv;obtain⟨us,rfl,hus⟩:=hv;exact⟨by simpa [Value.cells] using hus,λc hc=>qC.1 hl c hc⟩
 | _=>
  simp only[Lo]at h;split at h<;>simp only[pz,reduceCtorEq]at h;subst h;rename_i hl;refine⟨?_,by simpa using hl⟩;have h1:=RA hl hv;have:u.cells.toList=[u]:=by cases u<;>simp_all [Value.cells,Value.oneCell']
  rw[this];simp only[Bw];exact⟨u,[],rfl,hv,rfl⟩
theorem YY (hr:Rel F os s a w){e:TypeId}{v:Value}{cs:List AV}(hl:Bw F w os cs v.cells.toList)(vm :∀c∈cs,c.leaf=true)(vZ:cs≠[]){K:AV->List Row->Prop}
  (hk:K (.ptr s.st.length 0 0 0) (s.st++[⟨0,e,cs.length,[cs]⟩])):Iu P k F os s a w (do pure (.pointer (some (← newVar e v)))) K:=by
 have hlen:=BW hl;simp only[sG]at hlen;have ve:0<cs.length:=tM.2 vZ;have:=hr.Pa (k:=k) (.inl rfl) (cur:=v.cells) (e:=e) (size:=cs.length) (cap:=1) (xs:=[cs]) ve (by simpa using vm) (by simpa using hlen) (by simp) (by simp[maxLen]) (λi x hx j c hc=>by
  cases i with
  | zero=>
   simp only[qg,pz]at hx;subst hx;obtain⟨u,h1,h2⟩:=CJ hl j c hc;exact⟨u,by simpa using h1,h2⟩
  | succ i=>simp at hx)
 refine⟨_,_,.pointer (some ⟨w.heap.size,0,none⟩),_,_,hk,?_,this.1,cm hr rfl (by simp) rfl,this.2.1⟩;simp[newVar,newRow]
theorem jw {e:TypeId}{v:AV}{u:Value}{K:AV->List Row->Prop}(hr:Rel F os s a w)(h:nB e s.st v K)(hv:Ac F w os v u):Iu P k F os s a w (Instr.box e u) K:=by
 obtain⟨cs,xV,vZ,hk⟩:=BN h;obtain⟨h1,h2⟩:=SQ xV hv;exact YY hr h1 h2 vZ hk
theorem WN {e:TypeId}{z:List AV}(h:HN P e=some z):∃i v,P.info? e=some i/\i.zero=some v/\z=v.cells.toList.map PK/\(∀c∈z,c.leaf=true)/\z≠[]:=by
 unfold HN at h;split at h<;>try (cases h;done)
 rename_i i hi;split at h<;>try (cases h;done)
 rename_i v hv;split at h<;>try (cases h;done)
 rename_i hc;simp only[qP,sW,Array.isEmpty_eq_false_iff]at hc;simp only[pz]at h;subst h;refine⟨i,v,hi,hv,rfl,λc hm=>qC.1 hc.1 c hm,?_⟩;simpa using hc.2
theorem dp {e:TypeId}{K:AV->List Row->Prop}(hr:Rel F os s a w)(h:fq P e s.st K):Iu P k F os s a w (Instr.alloc e true (.tuple #[])) K:=by
 obtain⟨z,hz,hk⟩:=BN h;obtain⟨i,v,hi,hv,rfl,hl,vZ⟩:=WN hz;obtain⟨x,st',u,w',os',h1,h2,h3⟩:=YY (P:=P) (k:=k) (v:=v) hr (Qy F w os _) hl vZ hk;refine⟨x,st',u,w',os',h1,?_,h3⟩;have hz':(zeroValue e).run P w=.ok v w:=by simp[zeroValue,typeInfo,hi,hv]
 simpa [Instr.alloc,hz'] using h2
theorem Xz {x cs:List AV}{off n:Nat}(hx:x.length=n)(h:off+cs.length<=n):(IK x off cs).length=n:=by
 simp[IK];omega
theorem Rs (x cs:List AV)(off j:Nat)(hoff:off<=x.length):(IK x off cs)[j]?=if j<off then x[j]? else if j<off+cs.length then cs[j-off]? else x[j]?:=by
 unfold IK;by_cases h1:j<off
 ·rw[qF h1,qm,qK (by simp;omega),ql,qF h1]
 ·rw[qG h1];by_cases h2:j<off+cs.length
  ·rw[qF h2,qK (by simp;omega),qS (by simp;omega)];simp[tL hoff]
  ·rw[qG h2,qS (by simp;omega),qy];congr 1;simp[tL hoff];omega
theorem MG {cur:Array Value}{us:List Value}{p j:Nat}(h:p+us.length<=cur.size):
  ((cur.toList.take p++us++cur.toList.drop (p+us.length)).toArray)[j]?=if j<p then cur[j]? else if j<p+us.length then us[j-p]? else cur[j]?:=by
 simp only[tE];by_cases h1:j<p
 ·rw[qF h1,qm,qK (by simp;omega),ql,qF h1];simp
 ·rw[qG h1];by_cases h2:j<p+us.length
  ·rw[qF h2,qK (by simp;omega),qS (by simp;omega)];congr 1;simp;omega
  ·rw[qG h2,qS (by simp;omega),qy];simp only[qQ,sM,sG,ry];congr 1;omega
theorem ec {t:TypeId}{p v:AV}{up uv:Value}{K:List Row->Prop}(hr:Rel F os s a w)(h:Z5 P s.st t p v K)(hp:Ac F w os p up)(hv:Ac F w os v uv):
  ∃st' w' os',K st'/\(Instr.storeAt t up uv).run P w=.ok () w'/\Rel F os' { s with st:=st' } a w'/\Ext F os w F os' w' k:=by
 obtain⟨ti,ht,h⟩:=BN h;obtain⟨d,inf,hud,hi,_,e2⟩:=Kd ht;cases p with
 | ptr id g i off=>
  obtain⟨row,uj,hg,h0⟩:=BN h;obtain⟨x,hx,h1⟩:=BN h0;obtain⟨cs,xV,hlen,wh,hk⟩:=BN h1;obtain⟨o,ho,rfl⟩:=hr.row uj;simp only[Ac]at hp;obtain⟨o',vc,yn,_,hp⟩:=hp;rw[ho]at vc;cases vc;obtain⟨_,_,b,hb,rfl⟩:=hp hg;obtain⟨hrl,vm⟩:=SQ xV hv;have vF:=hr.rows id o ho;obtain⟨hnF,cur,vU,vY,hle,xQ,vR⟩:=vF.some b hb;have wz:i<o.row.xs.length:=(px.1 hx).1;have yD:=BW hrl;have hxl:=(vF.lens x (pt hx)).1;have hbound:i*o.row.size+off+uv.cells.toList.length<=cur.size:=by
   rw[yD,vY];have:(i+1)*o.row.size<=o.cap*o.row.size:=qo _ (by omega);rw[qn]at this;omega
  have yW:∀u∈uv.cells.toList,u.oneCell'=true:=λu hu=>by
   obtain⟨j,hj⟩:=qf.1 hu;have zB:j<cs.length:=by rw[<- yD];exact (px.1 hj).1
   obtain⟨u',xB,wS⟩:=CJ hrl j cs[j] (qD zB);rw[hj]at xB;cases xB;exact RA (vm _ (sR zB)) wS
  have vX:=run_storeCells_at P b (i*o.row.size+off) o.row.elem uv.cells.toList 0 cur w vU (by simpa using hbound) yW;simp only[tC]at vX;have xG:=hr.SM (k:=k) (o':={ o with row:={ o.row with xs:=o.row.xs.set i (IK x off cs) } }) ho (w':=w.setRow b (cur.toList.take (i*o.row.size+off)++uv.cells.toList++cur.toList.drop (i*o.row.size+off+uv.cells.toList.length)).toArray)
   (by rw[hb];exact Iy.setRow _ _ _) (qU _) rfl (λ_=>⟨rfl,rfl,by simp⟩) (λg hg=>.inl hg) (λvL=>by
    have hdp:MW (w.setRow b (cur.toList.take (i*o.row.size+off)++uv.cells.toList++cur.toList.drop (i*o.row.size+off+uv.cells.toList.length)).toArray) { o with row:={ o.row with xs:=o.row.xs.set i (IK x off cs) } }:=by
     obtain⟨D,d1,d2,d3⟩:=vF.deep;refine⟨D,d1,d2,λb' vy cur' el l wO i' y j e s' ys hy hc=>?_⟩;simp only at vy hy⊢;rw[hb]at vy;cases vy;rw[tZ w b cur _ _ _ vU]at wO;cases wO;have hold:∃y0,o.row.xs[i']?=some y0/\y0[j]?=some (.dv e s' ys)/\(i'≠i∨j<off∨off+cs.length<=j):=by
      by_cases hii:i'=i
      ·subst hii;rw[qI wz,pz]at hy;subst hy;rw[Rs _ _ _ _ (by omega)]at hc;by_cases hj1:j<off
       ·rw[qF hj1]at hc;exact⟨x,hx,hc,.inr (.inl hj1)⟩
       ·rw[qG hj1]at hc;by_cases hj2:j<off+cs.length
        ·rw[qF hj2]at hc;have:=vm _ (pt hc);simp[AV.leaf]at this
        ·rw[qG hj2]at hc;exact⟨x,hx,hc,.inr (.inr (by omega))⟩
      ·rw[qZ (rX hii)]at hy;exact⟨y,hy,hc,.inl hii⟩
     obtain⟨y0,hy0,wZ,vZ⟩:=hold;obtain⟨u,q1,q2⟩:=d3 b hb cur _ _ vU i' y0 j e s' ys hy0 wZ;have zB:j<o.row.size:=by rw[<- (vF.lens y0 (pt hy0)).1];exact (px.1 wZ).1
     refine⟨u,?_,Og (λ_ h=>h) (λc xH=>setRow_other w b c _ λe=>?_) _ u q2⟩
     ·rw[MG hbound,yD];rcases rb i' i with vS|hii|hgt
      ·have:(i'+1)*o.row.size<=i*o.row.size:=qo _ vS;rw[qn]at this;rw[qF (by omega)];exact q1
      ·subst hii;rcases vZ with vZ|vZ|vZ
       ·exact absurd rfl vZ
       ·rw[qF (by omega)];exact q1
       ·rw[qG (by omega),qG (by omega)];exact q1
      ·have:(i+1)*o.row.size<=i'*o.row.size:=qo _ hgt;rw[qn]at this;rw[qG (by omega),qG (by omega)];exact q1
     ·subst e;exact (vF.mo _ (d1 _ _ _ xH)).2.2 hb
    refine⟨vF.pos,λy hy=>?_,(λhn=>by rw[hb]at hn;cases hn),λb' vy=>?_,λg hg=>⟨(vF.mo g hg).1,by simpa using (vF.mo g hg).2.1,(vF.mo g hg).2.2⟩,hdp⟩
    ·rcases rB hy with hy|rfl
     ·exact vF.lens y hy
     ·refine⟨Xz hxl (by simpa using wh),λc hc=>?_⟩;unfold IK at hc;simp only[qb]at hc;rcases hc with (hc|hc)|hc
      ·exact (vF.lens x (pt hx)).2 c (rO hc)
      ·exact Du (vm c hc)
      ·exact (vF.lens x (pt hx)).2 c (re hc)
    ·rw[hb]at vy;cases vy;refine⟨hnF,_,tZ w b cur _ _ _ vU,?_,by simpa using hle,xQ,λi' y hy j c hc=>?_⟩
     ·simp only[sY,qQ,sM,sB,sG] at *;omega
     ·simp only at hy⊢;rw[MG hbound];by_cases hii:i'=i
      ·subst hii;rw[qI wz,pz]at hy;subst hy;rw[Rs _ _ _ _ (by omega)]at hc;by_cases hj1:j<off
       ·rw[qF hj1]at hc;obtain⟨u,h1,h2⟩:=vR _ _ hx j c hc;exact⟨u,by rw[qF (by omega)];exact h1,vL _ _ h2⟩
       ·rw[qG hj1]at hc;by_cases hj2:j<off+cs.length
        ·rw[qF hj2]at hc;obtain⟨u,h1,h2⟩:=CJ hrl _ _ hc;refine⟨u,?_,vL _ _ h2⟩;rw[qG (by omega),qF (by rw[yD];omega),<- h1];congr 1;omega
        ·rw[qG hj2]at hc;obtain⟨u,h1,h2⟩:=vR _ _ hx j c hc;exact⟨u,by rw[qG (by omega),qG (by rw[yD];omega)];exact h1,vL _ _ h2⟩
      ·rw[qZ (rX hii)]at hy;obtain⟨u,h1,h2⟩:=vR _ _ hy j c hc;have zB:j<o.row.size:=by rw[<- (vF.lens y (pt hy)).1];exact (px.1 hc).1
       refine⟨u,?_,vL _ _ h2⟩;rcases Nat.lt_or_gt_of_ne hii with vS|hgt
       ·have:(i'+1)*o.row.size<=i*o.row.size:=qo _ vS;rw[qn]at this;rw[qF (by omega)];exact h1
       ·have:(i+1)*o.row.size<=i'*o.row.size:=qo _ hgt;rw[qn]at this;rw[qG (by omega),qG (by rw[yD];omega)];exact h1)
  refine⟨_,_,_,hk,?_,xG.1,xG.2.1⟩;have hszt:(sizeOf t).run P w=.ok ti.2 w:=by simp[sizeOf,typeInfo,hi,e2]
  have:uv.cells.size=ti.2:=by rw[<- hlen,<- yD];simp
  simp[Instr.storeAt,Instr.sureAddr,storeVar,hszt,this,vX]
 | _=>exact h.elim
theorem ZN {t:TypeId}{l c:AV}{ul uc:Value}{K:AV->List Row->Prop}(hr:Rel F os s a w)(h:eE P s.st t l c K)(hl:Ac F w os l ul)(hc:Ac F w os c uc):Iu P k F os s a w (Instr.makeSlice t ul uc) K:=by
 obtain⟨ei,he,h⟩:=BN h;obtain⟨inf,z,hu,hi,hz,xh,ve,vY,hby,hzero,hzl⟩:=Ii he;cases l with
 | int kl n=>
  cases c with
  | int kc m=>
   obtain⟨rfl,h0,hb,hm,hk⟩:=h;simp only[Ac]at hl hc;subst hl;subst hc;obtain⟨N,rfl⟩:=qu h0;simp only[rv]at hk;have vT:=run_make (P:=P) w t ei.e inf z hu hi hz kl kc N N (by omega) (Int.le_refl _) (by rw[<- hby,Int.mul_comm];omega) (by omega);simp only[rv]at vT;have hzl':ei.zero.length=ei.size:=by rw[hzero,vY,<- xh];simp
   have:=hr.Pa (k:=k) (.inl rfl) (cur:=madeCells z.cells (N*inf.size)) (e:=ei.e) (size:=ei.size) (cap:=N) (xs:=List.replicate N ei.zero) (by omega)
    (λx hx=>by rw[List.mem_replicate]at hx;rw[hx.2];exact⟨hzl',hzl⟩) (by rw[size_madeCells,vY]) (by simp) (by simp[maxLen];omega) (λi x hx j c hc=>by
     rw[List.getElem?_replicate]at hx;split at hx<;>simp only[pz,reduceCtorEq]at hx;subst hx;rename_i hiN;have zB:j<ei.size:=by rw[<- hzl'];exact (px.1 hc).1
     have hj2:j<z.cells.size:=by omega
     refine⟨z.cells[j],?_,?_⟩
     ·have vS:i*ei.size+j<N*inf.size:=by
       have:(i+1)*ei.size<=N*ei.size:=qo _ hiN;rw[qn]at this;rw[<- vY];omega
      have zT:(i*ei.size+j) % z.cells.size=j:=by rw[xh,<- vY,tO,Nat.mul_add_mod];exact sf zB
      simp[madeCells,vS,zT,hj2]
     ·rw[hzero]at hc;simp only[qA,ry,rU hj2,qx,pz]at hc;subst hc;exact OI F w os _)
   refine⟨_,_,_,_,_,hk,vT,this.1,?_,this.2.1⟩;simp only[Ac];refine⟨⟨⟨0,ei.e,ei.size,List.replicate N ei.zero⟩,some w.heap.size,N,Ga⟩,by rw[hr.len];simp,by simp,⟨_,_,_,rfl⟩,λ_=>⟨by simp,.inr ⟨_,rfl,by simp⟩⟩⟩
  | _=>exact h.elim
 | _=>cases c<;>exact h.elim
structure Src (F:Nat->Prop) (w:World) (os:List Own) (u:Value) (ys:List (List AV)) (size:Nat):Prop where
 shape :∃ad c,u=.slice ad ys.length c/\(ys=[]∨∃b o,ad=some ⟨b,o,none⟩/\∀(i:Nat) y,ys[i]?=some y->Oh F w os b (o+i*size) y)
theorem XQ {x:AV}{u:Value}{size:Nat}{K:List (List AV)->Prop}(hr:Rel F os s a w)(h:aJ s.st x λys=>(∀y∈ys,y.length=size)/\K ys)(hx:Ac F w os x u):∃ys,K ys/\(∀y∈ys,y.length=size)/\(ys=[]∨∀y∈ys,∀c∈y,c.leaf=true)/\Src F w os u ys size:=by
 cases x with
 | sl ys=>
  obtain⟨vY,hk⟩:=h;simp only[Ac]at hx;obtain⟨ad,cap,rfl,_,vZ⟩:=hx;by_cases he:ys=[]
  ·exact⟨ys,hk,vY,.inl he,⟨ad,cap,rfl,.inl he⟩⟩
  ·obtain⟨b,o,sz,rfl,hb,hss,wV⟩:=vZ he;refine⟨ys,hk,vY,.inr λy hy c hc=>?_,⟨_,cap,rfl,?_⟩⟩
   ·obtain⟨i,hi⟩:=qf.1 hy;obtain⟨j,hj⟩:=qf.1 hc;obtain⟨_,_,h2,_⟩:=Pr (Mb hss wV i y hi) j c hj;exact h2
   have:sz=size:=by
    obtain⟨y,hy⟩:=List.exists_mem_of_ne_nil ys he;rw[<- hss y hy,vY y hy]
   subst this;exact .inr ⟨b,o,rfl,λi y hy=>NN (Mb hss wV i y hy)⟩
 | zc=>
  obtain⟨vY,hk⟩:=h;simp only[Ac]at hx;obtain⟨ad,rfl⟩:=hx;exact⟨[],hk,by simp,.inl rfl,⟨ad,0,rfl,.inl rfl⟩⟩
 | own id g n=>
  obtain⟨row,uj,hg,vw,hnw,vY,hk⟩:=BN h;obtain⟨o,ho,rfl⟩:=hr.row uj;simp only[Ac]at hx;obtain⟨o',vc,yn,_,hx⟩:=hx;rw[ho]at vc;cases vc;obtain⟨hle,hx⟩:=hx hg;simp only[OM hnw]at hx;refine⟨_,hk,vY,.inr (λy hy=>vw y (rO hy)),?_⟩;have hlen:(o.row.xs.take n).length=n:=by simp;omega
  rcases hx with ⟨hb,ad,rfl⟩|⟨b,hb,rfl⟩
  ·have:=((hr.rows id o ho).none hb).1;exact⟨ad,0,by rw[hlen],.inl (by rw[this];simp)⟩
  ·refine⟨_,o.cap,by rw[hlen],.inr ⟨b,0,rfl,λi y hy=>?_⟩⟩;have hy0:=hy;rw[ql]at hy;split at hy
   ·have h1:=hr.Si ho hb hy;have:o.row.size=size:=by
     rw[<- vY y (pt hy0)];exact (((hr.rows id o ho).lens y (pt hy)).1).symm
    rw[this]at h1;simpa using h1
   ·cases hy
 | _=>exact h.elim
theorem SZ {b o size:Nat}{ys:List (List AV)}(vY :∀y∈ys,y.length=size)(h :∀(i:Nat) y,ys[i]?=some y->Oh F w os b (o+i*size) y):
  ∃us:List Value,us.length=ys.length*size/\(∀(j:Nat) u,us[j]?=some u->w.cell? ((⟨b,o,none⟩:Addr).add j)=some u)/\(∀u∈us,u.oneCell'=true)/\
   ∀(i:Nat) y,ys[i]?=some y->∀(j:Nat) c,y[j]?=some c->∃u,us[i*size+j]?=some u/\c.kept=true/\Ac F w os c u:=by
 have hat:∀j,j<ys.length*size->∃i y c,j=i*size+j % size/\ys[i]?=some y/\y[j % size]?=some c:=λj hj=>by
  have ve:0<size:=Nat.pos_of_ne_zero (by rintro rfl;simp at hj);have hi:j / size<ys.length:=by rw[Nat.div_lt_iff_lt_mul ve];exact hj
  have hjm:j % size<(ys[j / size]).length:=by rw[vY _ (sR hi)];exact Nat.mod_lt _ ve
  exact⟨j / size,ys[j / size],(ys[j / size])[j % size],by rw[tO];exact (Nat.div_add_mod j size).symm,qD hi,qD hjm⟩
 refine⟨(List.range (ys.length*size)).map λj=>(w.cell? ((⟨b,o,none⟩:Addr).add j)).getD undef,by simp,λj u hu=>?_,λu hu=>?_,λi y hy j c hc=>?_⟩
 ·have hj:j<ys.length*size:=by have:=(px.1 hu).1;simpa using this
  simp only[qA,sH hj,qx,pz]at hu;obtain⟨i,y,c,he,hy,hc⟩:=hat j hj;obtain⟨u',h1,_⟩:=h i y hy _ c hc;rw[Db,he,<- rF]at hu⊢;rw[h1]at hu⊢;simp only[sN]at hu;rw[hu]
 ·obtain⟨j,hj,rfl⟩:=qT.1 hu;rw[rm]at hj;obtain⟨i,y,c,he,hy,hc⟩:=hat j hj;obtain⟨u',h1,h2,h3⟩:=h i y hy _ c hc;rw[Db,he,<- rF,h1];exact ZL h2 h3
 ·have hi:=(px.1 hy).1;have zB:j<size:=by rw[<- vY y (pt hy)];exact (px.1 hc).1
  obtain⟨u,h1,h2,h3⟩:=h i y hy j c hc;have vS:i*size+j<ys.length*size:=by
   have:(i+1)*size<=ys.length*size:=qo _ hi;rw[qn]at this;omega
  refine⟨u,?_,h2,h3⟩;simp only[qA,sH vS,qx,Db,<- rF,h1,sN]
end Go.Abs
