import Derived.Test.YtccficmcdkcpnaaGreatAbsD
set_option linter.all false
namespace Go.Abs
open Go
def MF (v:AV):Option (List AV):=
 match v with
 | .agg cs=>if cs.all AV.leaf then some cs else none
 | v=>if v.leaf then some [v] else none
def IE (P:Program)(e:TypeId):Option (List AV):=
 match P.info? e with
 | some i=>match i.zero with
  | some z=>if (z.cells.toList.map O6).all AV.leaf&&!z.cells.isEmpty then some (z.cells.toList.map O6) else none
  | none=>none
 | none=>none
def Ip (x:List AV)(off:Nat)(cs:List AV):List AV:=x.take off++cs++x.drop (off+cs.length)
def kE (P:Program)(e:TypeId)(st:List Row)(K:AV->List Row->Prop):Prop:=
 Gc (IE P e) λz=>K (.ptr st.length 0 0 0) (st++[⟨0,e,z.length,[z]⟩])
def rL (e:TypeId)(st:List Row)(v:AV)(K:AV->List Row->Prop):Prop:=
 Gc (MF v) λcs=>cs≠[]/\K (.ptr st.length 0 0 0) (st++[⟨0,e,cs.length,[cs]⟩])
def eX (P:Program)(st:List Row)(t:TypeId)(p v:AV)(K:List Row->Prop):Prop:=
 Gc (DJ P t) λti=>match p with
  | .ptr id g i off=>Gc st[id]? λrow=>row.gen=g/\Gc row.xs[i]? λx=>Gc (MF v) λcs=>
    cs.length=ti.2/\off+cs.length<=row.size/\K (st.set id { row with xs:=row.xs.set i (Ip x off cs) })
  | _=>False
def iO (P:Program)(st:List Row)(t:TypeId)(l c:AV)(K:AV->List Row->Prop):Prop:=
 Gc (Ck P t) λei=>match l,c with
  | .int _ n,.int _ m=>n=m/\0<=n/\n*(ei.bytes:Int)<=281474976710656/\n<=9223372036854775807/\K (.own st.length 0 n.toNat) (st++[⟨0,ei.e,ei.size,List.replicate n.toNat ei.zero⟩])
  | _,_=>False
def eP (st:List Row)(x:AV)(K:List (List AV)->Prop):Prop:=
 match x with
 | .sl ys=>K ys
 | .zc=>K []
 | .own id g n=>Gc st[id]? λrow=>row.gen=g/\(∀y∈row.xs,∀c∈y,c.leaf=true)/\n=row.xs.length/\K (row.xs.take n)
 | _=>False
def Y1 (P:Program)(st:List Row)(t:TypeId)(d x:AV)(K:AV->List Row->Prop):Prop:=
 Gc (Ck P t) λei=>eP st x λys=>(∀y∈ys,y.length=ei.size)/\match d with
  | .zc=>ys.length*ei.bytes<=140737488355328/\ys.length<=9223372036854775807/\K (.own st.length 0 ys.length) (st++[⟨0,ei.e,ei.size,ys⟩])
  | .own id g n=>Gc st[id]? λrow=>row.gen=g/\n=row.xs.length/\row.elem=ei.e/\row.size=ei.size/\(n+ys.length)*ei.bytes<=140737488355328/\n+ys.length<=9223372036854775807/\
    K (.own id (g+1) (n+ys.length)) (st.set id { row with gen:=g+1,xs:=row.xs.take n++ys })
  | _=>False
variable {P : Program} {F : Nat -> Prop} {os : List Own} {s : St} {a : Act} {w : World} {k : Nat}
def IV (P:Program)(k:Nat)(F:Nat->Prop)(os:List Own)(s:St)(a:Act)(w:World)(RR:Sem Value)(K:AV->List Row->Prop):Prop:=
 ∃v st' u w' os',K v st'/\RR.run P w=.ok u w'/\Rel F os' { s with st:=st' } a w'/\Ae F w' os' v u/\Ext F os w F os' w' k
theorem Rel.len (hr:Rel F os s a w):s.st.length=os.length:=by rw[<- hr.st];simp
theorem et (hr:Rel F os s a w){w':World}{o:Own}(hb:o.Ea=some w.heap.size)(hx:0<o.row.xs.length)(hg:o.row.gen=0):Ae F w' (os++[o]) (.ptr s.st.length 0 0 0) (.pointer (some ⟨w.heap.size,0,none⟩)):=by
 simp only[Ae];exact⟨o,by rw[hr.len];simp,by omega,⟨_,rfl⟩,λ_=>⟨hx,ue _,_,hb,by simp⟩⟩
theorem TN {v:AV}{u:Value}{cs:List AV}(h:MF v=some cs)(hv:Ae F w os v u):Bc F w os cs u.cells.toList/\(∀c∈cs,c.leaf=true):=by
 cases v with
 | agg xs=>
  simp only[MF]at h;split at h<;>simp only[uO,reduceCtorEq]at h;subst h;rename_i hl;simp only[Ae]at hv;obtain⟨us,rfl,hus⟩:=hv;exact⟨by simpa [Value.cells] using hus,λc hc=>uS.1 hl c hc⟩
 | _=>
  simp only[MF]at h;split at h<;>simp only[uO,reduceCtorEq]at h;subst h;rename_i hl;refine⟨?_,by simpa using hl⟩;have h1:=Rz hl hv;have:u.cells.toList=[u]:=by cases u<;>simp_all [Value.cells,Value.oneCell']
  rw[this];simp only[Bc];exact⟨u,[],rfl,hv,rfl⟩
theorem Za (hr:Rel F os s a w){e:TypeId}{v:Value}{cs:List AV}(hl:Bc F w os cs v.cells.toList)(hleaf :∀c∈cs,c.leaf=true)(hne:cs≠[]){K:AV->List Row->Prop}
  (hk:K (.ptr s.st.length 0 0 0) (s.st++[⟨0,e,cs.length,[cs]⟩])):IV P k F os s a w (do pure (.pointer (some (← newVar e v)))) K:=by
 have hlen:=BR hl;simp only[vy]at hlen;have hpos:0<cs.length:=yK.2 hne;have:=hr.Tv (k:=k) (.inl rfl) (cur:=v.cells) (e:=e) (size:=cs.length) (cap:=1) (xs:=[cs]) hpos (by simpa using hleaf) (by simpa using hlen) (by simp) (by simp[maxLen]) (λi x hx j c hc=>by
  cases i with
  | zero=>
   simp only[vC,uO]at hx;subst hx;obtain⟨u,h1,h2⟩:=Bo hl j c hc;exact⟨u,by simpa using h1,h2⟩
  | succ i=>simp at hx)
 refine⟨_,_,.pointer (some ⟨w.heap.size,0,none⟩),_,_,hk,?_,this.1,et hr rfl (by simp) rfl,this.2.1⟩;simp[newVar,newRow]
theorem nr {e:TypeId}{v:AV}{u:Value}{K:AV->List Row->Prop}(hr:Rel F os s a w)(h:rL e s.st v K)(hv:Ae F w os v u):IV P k F os s a w (Instr.box e u) K:=by
 obtain⟨cs,hcs,hne,hk⟩:=BL h;obtain⟨h1,h2⟩:=TN hcs hv;exact Za hr h1 h2 hne hk
theorem Xp {e:TypeId}{z:List AV}(h:IE P e=some z):∃i v,P.info? e=some i/\i.zero=some v/\z=v.cells.toList.map O6/\(∀c∈z,c.leaf=true)/\z≠[]:=by
 unfold IE at h;split at h<;>try (cases h;done)
 rename_i i hi;split at h<;>try (cases h;done)
 rename_i v hv;split at h<;>try (cases h;done)
 rename_i hc;simp only[uT,vj,Array.isEmpty_eq_false_iff]at hc;simp only[uO]at h;subst h;refine⟨i,v,hi,hv,rfl,λc hm=>uS.1 hc.1 c hm,?_⟩;simpa using hc.2
theorem ic {e:TypeId}{K:AV->List Row->Prop}(hr:Rel F os s a w)(h:kE P e s.st K):IV P k F os s a w (Instr.alloc e true (.tuple #[])) K:=by
 obtain⟨z,hz,hk⟩:=BL h;obtain⟨i,v,hi,hv,rfl,hl,hne⟩:=Xp hz;obtain⟨x,st',u,w',os',h1,h2,h3⟩:=Za (P:=P) (k:=k) (v:=v) hr (RV F w os _) hl hne hk;refine⟨x,st',u,w',os',h1,?_,h3⟩;have hz':(zeroValue e).run P w=.ok v w:=by simp[zeroValue,typeInfo,hi,hv]
 simpa [Instr.alloc,hz'] using h2
theorem aC {x cs:List AV}{off n:Nat}(hx:x.length=n)(h:off+cs.length<=n):(Ip x off cs).length=n:=by
 simp[Ip];omega
theorem TT (x cs:List AV)(off j:Nat)(hoff:off<=x.length):(Ip x off cs)[j]?=if j<off then x[j]? else if j<off+cs.length then cs[j-off]? else x[j]?:=by
 unfold Ip;by_cases h1:j<off
 ·rw[uX h1,vP,uU (by simp;omega),vN,uX h1]
 ·rw[uY h1];by_cases h2:j<off+cs.length
  ·rw[uX h2,uU (by simp;omega),ug (by simp;omega)];simp[wV hoff]
  ·rw[uY h2,ug (by simp;omega),vZ];congr 1;simp[wV hoff];omega
theorem OT {cur:Array Value}{us:List Value}{p j:Nat}(h:p+us.length<=cur.size):
  ((cur.toList.take p++us++cur.toList.drop (p+us.length)).toArray)[j]?=if j<p then cur[j]? else if j<p+us.length then us[j-p]? else cur[j]?:=by
 simp only[xp];by_cases h1:j<p
 ·rw[uX h1,vP,uU (by simp;omega),vN,uX h1];simp
 ·rw[uY h1];by_cases h2:j<p+us.length
  ·rw[uX h2,uU (by simp;omega),ug (by simp;omega)];congr 1;simp;omega
  ·rw[uY h2,ug (by simp;omega),vZ];simp only[uu,vt,vy,wA];congr 1;omega
theorem jb {t:TypeId}{p v:AV}{up uv:Value}{K:List Row->Prop}(hr:Rel F os s a w)(h:eX P s.st t p v K)(hp:Ae F w os p up)(hv:Ae F w os v uv):
  ∃st' w' os',K st'/\(Instr.storeAt t up uv).run P w=.ok () w'/\Rel F os' { s with st:=st' } a w'/\Ext F os w F os' w' k:=by
 obtain⟨ti,ht,h⟩:=BL h;obtain⟨d,inf,hud,hi,_,e2⟩:=LG ht;cases p with
 | ptr id g i off=>
  obtain⟨row,zh,hg,h0⟩:=BL h;obtain⟨x,hx,h1⟩:=BL h0;obtain⟨cs,hcs,hlen,hfit,hk⟩:=BL h1;obtain⟨o,ho,rfl⟩:=hr.row zh;simp only[Ae]at hp;obtain⟨o',ho',hge,_,hp⟩:=hp;rw[ho]at ho';cases ho';obtain⟨_,_,b,hb,rfl⟩:=hp hg;obtain⟨hrl,hleaf⟩:=TN hcs hv;have zp:=hr.rows id o ho;obtain⟨hnF,cur,AAF,hsz,hle,hmax,AAE⟩:=zp.some b hb;have hil:i<o.row.xs.length:=(uK.1 hx).1;have hulen:=BR hrl;have hxl:=(zp.lens x (uL hx)).1;have hbound:i*o.row.size+off+uv.cells.toList.length<=cur.size:=by
   rw[hulen,hsz];have:(i+1)*o.row.size<=o.cap*o.row.size:=va _ (by omega);rw[vg]at this;omega
  have hone:∀u∈uv.cells.toList,u.oneCell'=true:=λu hu=>by
   obtain⟨j,hj⟩:=vF.1 hu;have hjl:j<cs.length:=by rw[<- hulen];exact (uK.1 hj).1
   obtain⟨u',hu',hr'⟩:=Bo hrl j cs[j] (uQ hjl);rw[hj]at hu';cases hu';exact Rz (hleaf _ (xB hjl)) hr'
  have hst:=run_storeCells_at P b (i*o.row.size+off) o.row.elem uv.cells.toList 0 cur w AAF (by simpa using hbound) hone;simp only[xN]at hst;have hturn:=hr.RK (k:=k) (o':={ o with row:={ o.row with xs:=o.row.xs.set i (Ip x off cs) } }) ho (w':=w.setRow b (cur.toList.take (i*o.row.size+off)++uv.cells.toList++cur.toList.drop (i*o.row.size+off+uv.cells.toList.length)).toArray)
   (by rw[hb];exact Gt.setRow _ _ _) (uq _) rfl (λ_=>⟨rfl,rfl,by simp⟩) (λg hg=>.inl hg) (λAAC=>by
    have hdp:NB (w.setRow b (cur.toList.take (i*o.row.size+off)++uv.cells.toList++cur.toList.drop (i*o.row.size+off+uv.cells.toList.length)).toArray) { o with row:={ o.row with xs:=o.row.xs.set i (Ip x off cs) } }:=by
     obtain⟨D,d1,d2,d3⟩:=zp.deep;refine⟨D,d1,d2,λb' hb' cur' el l hcur' i' y j e s' ys hy hc=>?_⟩;simp only at hb' hy⊢;rw[hb]at hb';cases hb';rw[setRow_heap w b cur _ _ _ AAF]at hcur';cases hcur';have hold:∃y0,o.row.xs[i']?=some y0/\y0[j]?=some (.dv e s' ys)/\(i'≠i∨j<off∨off+cs.length<=j):=by
      by_cases hii:i'=i
      ·subst hii;rw[uV hil,uO]at hy;subst hy;rw[TT _ _ _ _ (by omega)]at hc;by_cases hj1:j<off
       ·rw[uX hj1]at hc;exact⟨x,hx,hc,.inr (.inl hj1)⟩
       ·rw[uY hj1]at hc;by_cases hj2:j<off+cs.length
        ·rw[uX hj2]at hc;have:=hleaf _ (uL hc);simp[AV.leaf]at this
        ·rw[uY hj2]at hc;exact⟨x,hx,hc,.inr (.inr (by omega))⟩
      ·rw[vE (wR hii)]at hy;exact⟨y,hy,hc,.inl hii⟩
     obtain⟨y0,hy0,hc0,hne⟩:=hold;obtain⟨u,q1,q2⟩:=d3 b hb cur _ _ AAF i' y0 j e s' ys hy0 hc0;have hjl:j<o.row.size:=by rw[<- (zp.lens y0 (uL hy0)).1];exact (uK.1 hc0).1
     refine⟨u,?_,Nb (λ_ h=>h) (λc hcm=>setRow_other w b c _ λe=>?_) _ u q2⟩
     ·rw[OT hbound,hulen];rcases wD i' i with hlt|hii|hgt
      ·have:(i'+1)*o.row.size<=i*o.row.size:=va _ hlt;rw[vg]at this;rw[uX (by omega)];exact q1
      ·subst hii;rcases hne with hne|hne|hne
       ·exact absurd rfl hne
       ·rw[uX (by omega)];exact q1
       ·rw[uY (by omega),uY (by omega)];exact q1
      ·have:(i+1)*o.row.size<=i'*o.row.size:=va _ hgt;rw[vg]at this;rw[uY (by omega),uY (by omega)];exact q1
     ·subst e;exact (zp.mo _ (d1 _ _ _ hcm)).2.2 hb
    refine⟨zp.pos,λy hy=>?_,(λhn=>by rw[hb]at hn;cases hn),λb' hb'=>?_,λg hg=>⟨(zp.mo g hg).1,by simpa using (zp.mo g hg).2.1,(zp.mo g hg).2.2⟩,hdp⟩
    ·rcases vq hy with hy|rfl
     ·exact zp.lens y hy
     ·refine⟨aC hxl (by simpa using hfit),λc hc=>?_⟩;unfold Ip at hc;simp only[vJ]at hc;rcases hc with (hc|hc)|hc
      ·exact (zp.lens x (uL hx)).2 c (wK hc)
      ·exact DL (hleaf c hc)
      ·exact (zp.lens x (uL hx)).2 c (wC hc)
    ·rw[hb]at hb';cases hb';refine⟨hnF,_,setRow_heap w b cur _ _ _ AAF,?_,by simpa using hle,hmax,λi' y hy j c hc=>?_⟩
     ·simp only[xl,uu,vt,xZ,vy] at *;omega
     ·simp only at hy⊢;rw[OT hbound];by_cases hii:i'=i
      ·subst hii;rw[uV hil,uO]at hy;subst hy;rw[TT _ _ _ _ (by omega)]at hc;by_cases hj1:j<off
       ·rw[uX hj1]at hc;obtain⟨u,h1,h2⟩:=AAE _ _ hx j c hc;exact⟨u,by rw[uX (by omega)];exact h1,AAC _ _ h2⟩
       ·rw[uY hj1]at hc;by_cases hj2:j<off+cs.length
        ·rw[uX hj2]at hc;obtain⟨u,h1,h2⟩:=Bo hrl _ _ hc;refine⟨u,?_,AAC _ _ h2⟩;rw[uY (by omega),uX (by rw[hulen];omega),<- h1];congr 1;omega
        ·rw[uY hj2]at hc;obtain⟨u,h1,h2⟩:=AAE _ _ hx j c hc;exact⟨u,by rw[uY (by omega),uY (by rw[hulen];omega)];exact h1,AAC _ _ h2⟩
      ·rw[vE (wR hii)]at hy;obtain⟨u,h1,h2⟩:=AAE _ _ hy j c hc;have hjl:j<o.row.size:=by rw[<- (zp.lens y (uL hy)).1];exact (uK.1 hc).1
       refine⟨u,?_,AAC _ _ h2⟩;rcases Nat.lt_or_gt_of_ne hii with hlt|hgt
       ·have:(i'+1)*o.row.size<=i*o.row.size:=va _ hlt;rw[vg]at this;rw[uX (by omega)];exact h1
       ·have:(i+1)*o.row.size<=i'*o.row.size:=va _ hgt;rw[vg]at this;rw[uY (by omega),uY (by rw[hulen];omega)];exact h1)
  refine⟨_,_,_,hk,?_,hturn.1,hturn.2.1⟩;have hszt:(sizeOf t).run P w=.ok ti.2 w:=by simp[sizeOf,typeInfo,hi,e2]
  have:uv.cells.size=ti.2:=by rw[<- hlen,<- hulen];simp
  simp[Instr.storeAt,Instr.sureAddr,storeVar,hszt,this,hst]
 | _=>exact h.elim
theorem cO {t:TypeId}{l c:AV}{ul uc:Value}{K:AV->List Row->Prop}(hr:Rel F os s a w)(h:iO P s.st t l c K)(hl:Ae F w os l ul)(hc:Ae F w os c uc):IV P k F os s a w (Instr.makeSlice t ul uc) K:=by
 obtain⟨ei,he,h⟩:=BL h;obtain⟨inf,z,hu,hi,hz,hzs,hpos,hsz,hby,hzero,hzl⟩:=J3 he;cases l with
 | int kl n=>
  cases c with
  | int kc m=>
   obtain⟨rfl,h0,hb,hm,hk⟩:=h;simp only[Ae]at hl hc;subst hl;subst hc;obtain⟨N,rfl⟩:=vu h0;simp only[wH]at hk;have hrun:=run_make (P:=P) w t ei.e inf z hu hi hz kl kc N N (by omega) (xg _) (by rw[<- hby,Int.mul_comm];omega) (by omega);simp only[wH]at hrun;have hzl':ei.zero.length=ei.size:=by rw[hzero,hsz,<- hzs];simp
   have:=hr.Tv (k:=k) (.inl rfl) (cur:=madeCells z.cells (N*inf.size)) (e:=ei.e) (size:=ei.size) (cap:=N) (xs:=List.replicate N ei.zero) (by omega)
    (λx hx=>by rw[xC]at hx;rw[hx.2];exact⟨hzl',hzl⟩) (by rw[size_madeCells,hsz]) (by simp) (by simp[maxLen];omega) (λi x hx j c hc=>by
     rw[List.getElem?_replicate]at hx;split at hx<;>simp only[uO,reduceCtorEq]at hx;subst hx;rename_i hiN;have hjl:j<ei.size:=by rw[<- hzl'];exact (uK.1 hc).1
     have hj2:j<z.cells.size:=by omega
     refine⟨z.cells[j],?_,?_⟩
     ·have hlt:i*ei.size+j<N*inf.size:=by
       have:(i+1)*ei.size<=N*ei.size:=va _ hiN;rw[vg]at this;rw[<- hsz];omega
      have hmod:(i*ei.size+j) % z.cells.size=j:=by rw[hzs,<- hsz,yL,yj];exact yB hjl
      simp[madeCells,hlt,hmod,hj2]
     ·rw[hzero]at hc;simp only[uP,wA,vk hj2,vY,uO]at hc;subst hc;exact NP F w os _)
   refine⟨_,_,_,_,_,hk,hrun,this.1,?_,this.2.1⟩;simp only[Ae];refine⟨⟨⟨0,ei.e,ei.size,List.replicate N ei.zero⟩,some w.heap.size,N,Gb⟩,by rw[hr.len];simp,by simp,⟨_,_,_,rfl⟩,λ_=>⟨by simp,.inr ⟨_,rfl,by simp⟩⟩⟩
  | _=>exact h.elim
 | _=>cases c<;>exact h.elim
structure Src (F:Nat->Prop) (w:World) (os:List Own) (u:Value) (ys:List (List AV)) (size:Nat):Prop where
 shape :∃ad c,u=.slice ad ys.length c/\(ys=[]∨∃b o,ad=some ⟨b,o,none⟩/\∀(i:Nat) y,ys[i]?=some y->Q1 F w os b (o+i*size) y)
theorem jX {x:AV}{u:Value}{size:Nat}{K:List (List AV)->Prop}(hr:Rel F os s a w)(h:eP s.st x λys=>(∀y∈ys,y.length=size)/\K ys)(hx:Ae F w os x u):∃ys,K ys/\(∀y∈ys,y.length=size)/\(ys=[]∨∀y∈ys,∀c∈y,c.leaf=true)/\Src F w os u ys size:=by
 cases x with
 | sl ys=>
  obtain⟨hsz,hk⟩:=h;simp only[Ae]at hx;obtain⟨ad,cap,rfl,_,hne⟩:=hx;by_cases he:ys=[]
  ·exact⟨ys,hk,hsz,.inl he,⟨ad,cap,rfl,.inl he⟩⟩
  ·obtain⟨b,o,sz,rfl,hb,hss,hrows⟩:=hne he;refine⟨ys,hk,hsz,.inr λy hy c hc=>?_,⟨_,cap,rfl,?_⟩⟩
   ·obtain⟨i,hi⟩:=vF.1 hy;obtain⟨j,hj⟩:=vF.1 hc;obtain⟨_,_,h2,_⟩:=QM (NI hss hrows i y hi) j c hj;exact h2
   have:sz=size:=by
    obtain⟨y,hy⟩:=List.exists_mem_of_ne_nil ys he;rw[<- hss y hy,hsz y hy]
   subst this;exact .inr ⟨b,o,rfl,λi y hy=>OD (NI hss hrows i y hy)⟩
 | zc=>
  obtain⟨hsz,hk⟩:=h;simp only[Ae]at hx;obtain⟨ad,rfl⟩:=hx;exact⟨[],hk,by simp,.inl rfl,⟨ad,0,rfl,.inl rfl⟩⟩
 | own id g n=>
  obtain⟨row,zh,hg,hlf,hnw,hsz,hk⟩:=BL h;obtain⟨o,ho,rfl⟩:=hr.row zh;simp only[Ae]at hx;obtain⟨o',ho',hge,_,hx⟩:=hx;rw[ho]at ho';cases ho';obtain⟨hle,hx⟩:=hx hg;simp only[PD hnw]at hx;refine⟨_,hk,hsz,.inr (λy hy=>hlf y (wK hy)),?_⟩;have hlen:(o.row.xs.take n).length=n:=by simp;omega
  rcases hx with ⟨hb,ad,rfl⟩|⟨b,hb,rfl⟩
  ·have:=((hr.rows id o ho).none hb).1;exact⟨ad,0,by rw[hlen],.inl (by rw[this];simp)⟩
  ·refine⟨_,o.cap,by rw[hlen],.inr ⟨b,0,rfl,λi y hy=>?_⟩⟩;have hy0:=hy;rw[vN]at hy;split at hy
   ·have h1:=hr.XZ ho hb hy;have:o.row.size=size:=by
     rw[<- hsz y (uL hy0)];exact (((hr.rows id o ho).lens y (uL hy)).1).symm
    rw[this]at h1;simpa using h1
   ·cases hy
 | _=>exact h.elim
theorem cu {b o size:Nat}{ys:List (List AV)}(hsz :∀y∈ys,y.length=size)(h :∀(i:Nat) y,ys[i]?=some y->Q1 F w os b (o+i*size) y):
  ∃us:List Value,us.length=ys.length*size/\(∀(j:Nat) u,us[j]?=some u->w.cell? ((⟨b,o,none⟩:Addr).add j)=some u)/\(∀u∈us,u.oneCell'=true)/\
   ∀(i:Nat) y,ys[i]?=some y->∀(j:Nat) c,y[j]?=some c->∃u,us[i*size+j]?=some u/\c.kept=true/\Ae F w os c u:=by
 have hat:∀j,j<ys.length*size->∃i y c,j=i*size+j % size/\ys[i]?=some y/\y[j % size]?=some c:=λj hj=>by
  have hpos:0<size:=Nat.pos_of_ne_zero (by rintro rfl;simp at hj);have hi:j / size<ys.length:=by rw[Nat.div_lt_iff_lt_mul hpos];exact hj
  have hjm:j % size<(ys[j / size]).length:=by rw[hsz _ (xB hi)];exact Nat.mod_lt _ hpos
  exact⟨j / size,ys[j / size],(ys[j / size])[j % size],by rw[yL];exact (Nat.div_add_mod j size).symm,uQ hi,uQ hjm⟩
 refine⟨(List.range (ys.length*size)).map λj=>(w.cell? ((⟨b,o,none⟩:Addr).add j)).getD undef,by simp,λj u hu=>?_,λu hu=>?_,λi y hy j c hc=>?_⟩
 ·have hj:j<ys.length*size:=by have:=(uK.1 hu).1;simpa using this
  simp only[uP,wY hj,vY,uO]at hu;obtain⟨i,y,c,he,hy,hc⟩:=hat j hj;obtain⟨u',h1,_⟩:=h i y hy _ c hc;rw[DM,he,<- wZ]at hu⊢;rw[h1]at hu⊢;simp only[wq]at hu;rw[hu]
 ·obtain⟨j,hj,rfl⟩:=uw.1 hu;rw[wQ]at hj;obtain⟨i,y,c,he,hy,hc⟩:=hat j hj;obtain⟨u',h1,h2,h3⟩:=h i y hy _ c hc;rw[DM,he,<- wZ,h1];exact bN h2 h3
 ·have hi:=(uK.1 hy).1;have hjl:j<size:=by rw[<- hsz y (uL hy)];exact (uK.1 hc).1
  obtain⟨u,h1,h2,h3⟩:=h i y hy j c hc;have hlt:i*size+j<ys.length*size:=by
   have:(i+1)*size<=ys.length*size:=va _ hi;rw[vg]at this;omega
  refine⟨u,?_,h2,h3⟩;simp only[uP,wY hlt,vY,DM,<- wZ,h1,wq]
end Go.Abs
