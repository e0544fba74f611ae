import Derived.Test.YtihdgoiebmfapaaGreatAbsD
set_option linter.all false
namespace Go.Abs
open Go
def Kb (v:AV):Option (List AV):=
 match v with
 | .agg cs=>if cs.all AV.leaf then some cs else none
 | v=>if v.leaf then some [v] else none
def ID (P:Program)(e:TypeId):Option (List AV):=
 match P.info? e with
 | some i=>match i.zero with
  | some z=>if (z.cells.toList.map NZ).all AV.leaf&&!z.cells.isEmpty then some (z.cells.toList.map NZ) else none
  | none=>none
 | none=>none
def HG (x:List AV)(off:Nat)(cs:List AV):List AV:=x.take off++cs++x.drop (off+cs.length)
def cy (P:Program)(e:TypeId)(st:List Row)(K:AV->List Row->Prop):Prop:=
 Fl (ID P e) λz=>K (.ptr st.length 0 0 0) (st++[⟨0,e,z.length,[z]⟩])
def jG (e:TypeId)(st:List Row)(v:AV)(K:AV->List Row->Prop):Prop:=
 Fl (Kb v) λcs=>cs≠[]/\K (.ptr st.length 0 0 0) (st++[⟨0,e,cs.length,[cs]⟩])
def Ym (P:Program)(st:List Row)(t:TypeId)(p v:AV)(K:List Row->Prop):Prop:=
 Fl (Dr P t) λti=>match p with
  | .ptr id g i off=>Fl st[id]? λrow=>row.gen=g/\Fl row.xs[i]? λx=>Fl (Kb v) λcs=>
    cs.length=ti.2/\off+cs.length<=row.size/\K (st.set id { row with xs:=row.xs.set i (HG x off cs) })
  | _=>False
def cM (P:Program)(st:List Row)(t:TypeId)(l c:AV)(K:AV->List Row->Prop):Prop:=
 Fl (Ds P t) λei=>match l,c with
  | .int _ n,.int _ m=>n=m/\0<=n/\n*(ei.bytes:Int)<=281474976710656/\n<=9223372036854775807/\K (.own st.length 0 n.toNat) (st++[⟨0,ei.e,ei.size,List.replicate n.toNat ei.zero⟩])
  | _,_=>False
def Y5 (st:List Row)(x:AV)(K:List (List AV)->Prop):Prop:=
 match x with
 | .sl ys=>K ys
 | .zc=>K []
 | .own id g n=>Fl st[id]? λrow=>row.gen=g/\(∀y∈row.xs,∀c∈y,c.leaf=true)/\n=row.xs.length/\K (row.xs.take n)
 | _=>False
def Vr (P:Program)(st:List Row)(t:TypeId)(d x:AV)(K:AV->List Row->Prop):Prop:=
 Fl (Ds P t) λei=>Y5 st x λys=>(∀y∈ys,y.length=ei.size)/\match d with
  | .zc=>ys.length*ei.bytes<=140737488355328/\ys.length<=9223372036854775807/\K (.own st.length 0 ys.length) (st++[⟨0,ei.e,ei.size,ys⟩])
  | .own id g n=>Fl st[id]? λrow=>row.gen=g/\n=row.xs.length/\row.elem=ei.e/\row.size=ei.size/\(n+ys.length)*ei.bytes<=140737488355328/\n+ys.length<=9223372036854775807/\
    K (.own id (g+1) (n+ys.length)) (st.set id { row with gen:=g+1,xs:=row.xs.take n++ys })
  | _=>False
variable {P : Program} {F : Nat -> Prop} {os : List Own} {s : St} {a : Act} {w : World} {k : Nat}
def H9 (P:Program)(k:Nat)(F:Nat->Prop)(os:List Own)(s:St)(a:Act)(w:World)(uT:Sem Value)(K:AV->List Row->Prop):Prop:=
 ∃v st' u w' os',K v st'/\uT.run P w=.ok u w'/\Rel F os' { s with st:=st' } a w'/\Ae F w' os' v u/\Ext F os w F os' w' k
theorem Rel.len (hr:Rel F os s a w):s.st.length=os.length:=by rw[<- hr.st];simp
theorem ZJ (hr:Rel F os s a w){w':World}{o:Own}(hb:o.Fk=some w.heap.size)(hx:0<o.row.xs.length)(hg:o.row.gen=0):Ae F w' (os++[o]) (.ptr s.st.length 0 0 0) (.pointer (some ⟨w.heap.size,0,none⟩)):=by
 simp only[Ae];exact⟨o,by rw[hr.len];simp,by omega,⟨_,rfl⟩,λ_=>⟨hx,mB _,_,hb,by simp⟩⟩
theorem Pg {v:AV}{u:Value}{cs:List AV}(h:Kb v=some cs)(hv:Ae F w os v u):Bs F w os cs u.cells.toList/\(∀c∈cs,c.leaf=true):=by
 cases v with
 | agg xs=>
  simp only[Kb]at h;split at h<;>simp only[lX,reduceCtorEq]at h;subst h;rename_i hl;simp only[Ae]at hv;obtain⟨us,rfl,hus⟩:=hv;exact⟨by simpa [Value.cells] using hus,λc hc=>lh.1 hl c hc⟩
 | _=>
  simp only[Kb]at h;split at h<;>simp only[lX,reduceCtorEq]at h;subst h;rename_i hl;refine⟨?_,by simpa using hl⟩;have h1:=Oi hl hv;have:u.cells.toList=[u]:=by cases u<;>simp_all [Value.cells,Value.oneCell']
  rw[this];simp only[Bs];exact⟨u,[],rfl,hv,rfl⟩
theorem Vf (hr:Rel F os s a w){e:TypeId}{v:Value}{cs:List AV}(hl:Bs F w os cs v.cells.toList)(rM :∀c∈cs,c.leaf=true)(rE:cs≠[]){K:AV->List Row->Prop}
  (hk:K (.ptr s.st.length 0 0 0) (s.st++[⟨0,e,cs.length,[cs]⟩])):H9 P k F os s a w (do pure (.pointer (some (← newVar e v)))) K:=by
 have hlen:=BZ hl;simp only[nt]at hlen;have rQ:0<cs.length:=pG.2 rE;have:=hr.Oa (k:=k) (.inl rfl) (cur:=v.cells) (e:=e) (size:=cs.length) (cap:=1) (xs:=[cs]) rQ (by simpa using rM) (by simpa using hlen) (by simp) (by simp[maxLen]) (λi x hx j c hc=>by
  cases i with
  | zero=>
   simp only[mI,lX]at hx;subst hx;obtain⟨u,h1,h2⟩:=CO hl j c hc;exact⟨u,by simpa using h1,h2⟩
  | succ i=>simp at hx)
 refine⟨_,_,.pointer (some ⟨w.heap.size,0,none⟩),_,_,hk,?_,this.1,ZJ hr rfl (by simp) rfl,this.2.1⟩;simp[newVar,newRow]
theorem fO {e:TypeId}{v:AV}{u:Value}{K:AV->List Row->Prop}(hr:Rel F os s a w)(h:jG e s.st v K)(hv:Ae F w os v u):H9 P k F os s a w (Instr.box e u) K:=by
 obtain⟨cs,sa,rE,hk⟩:=BP h;obtain⟨h1,h2⟩:=Pg sa hv;exact Vf hr h1 h2 rE hk
theorem UM {e:TypeId}{z:List AV}(h:ID P e=some z):∃i v,P.info? e=some i/\i.zero=some v/\z=v.cells.toList.map NZ/\(∀c∈z,c.leaf=true)/\z≠[]:=by
 unfold ID at h;split at h<;>try (cases h;done)
 rename_i i hi;split at h<;>try (cases h;done)
 rename_i v hv;split at h<;>try (cases h;done)
 rename_i hc;simp only[mE,Bool.not_eq_true',Array.isEmpty_eq_false_iff]at hc;simp only[lX]at h;subst h;refine⟨i,v,hi,hv,rfl,λc hm=>lh.1 hc.1 c hm,?_⟩;simpa using hc.2
theorem ar {e:TypeId}{K:AV->List Row->Prop}(hr:Rel F os s a w)(h:cy P e s.st K):H9 P k F os s a w (Instr.alloc e true (.tuple #[])) K:=by
 obtain⟨z,hz,hk⟩:=BP h;obtain⟨i,v,hi,hv,rfl,hl,rE⟩:=UM hz;obtain⟨x,st',u,w',os',h1,h2,h3⟩:=Vf (P:=P) (k:=k) (v:=v) hr (Oc F w os _) hl rE hk;refine⟨x,st',u,w',os',h1,?_,h3⟩;have hz':(zeroValue e).run P w=.ok v w:=by simp[zeroValue,typeInfo,hi,hv]
 simpa [Instr.alloc,hz'] using h2
theorem Vy {x cs:List AV}{off n:Nat}(hx:x.length=n)(h:off+cs.length<=n):(HG x off cs).length=n:=by
 simp[HG];omega
theorem QF (x cs:List AV)(off j:Nat)(hoff:off<=x.length):(HG x off cs)[j]?=if j<off then x[j]? else if j<off+cs.length then cs[j-off]? else x[j]?:=by
 unfold HG;by_cases h1:j<off
 ·rw[ld h1,my,lj (by simp;omega),mJ,ld h1]
 ·rw[la h1];by_cases h2:j<off+cs.length
  ·rw[ld h2,lj (by simp;omega),ln (by simp;omega)];simp[oW hoff]
  ·rw[la h2,ln (by simp;omega),mU];congr 1;simp[oW hoff];omega
theorem KM {cur:Array Value}{us:List Value}{p j:Nat}(h:p+us.length<=cur.size):
  ((cur.toList.take p++us++cur.toList.drop (p+us.length)).toArray)[j]?=if j<p then cur[j]? else if j<p+us.length then us[j-p]? else cur[j]?:=by
 simp only[oK];by_cases h1:j<p
 ·rw[ld h1,my,lj (by simp;omega),mJ,ld h1];simp
 ·rw[la h1];by_cases h2:j<p+us.length
  ·rw[ld h2,lj (by simp;omega),ln (by simp;omega)];congr 1;simp;omega
  ·rw[la h2,ln (by simp;omega),mU];simp only[mD,nq,nt,nk];congr 1;omega
theorem bl {t:TypeId}{p v:AV}{up uv:Value}{K:List Row->Prop}(hr:Rel F os s a w)(h:Ym P s.st t p v K)(hp:Ae F w os p up)(hv:Ae F w os v uv):
  ∃st' w' os',K st'/\(Instr.storeAt t up uv).run P w=.ok () w'/\Rel F os' { s with st:=st' } a w'/\Ext F os w F os' w' k:=by
 obtain⟨ti,ht,h⟩:=BP h;obtain⟨d,inf,hud,hi,_,e2⟩:=JD ht;cases p with
 | ptr id g i off=>
  obtain⟨row,qc,hg,h0⟩:=BP h;obtain⟨x,hx,h1⟩:=BP h0;obtain⟨cs,sa,hlen,sD,hk⟩:=BP h1;obtain⟨o,ho,rfl⟩:=hr.row qc;simp only[Ae]at hp;obtain⟨o',rH,tz,_,hp⟩:=hp;rw[ho]at rH;cases rH;obtain⟨_,_,b,hb,rfl⟩:=hp hg;obtain⟨uU,rM⟩:=Pg sa hv;have qf:=hr.rows id o ho;obtain⟨vQ,cur,qv,rC,hle,se,qy⟩:=qf.some b hb;have rv:i<o.row.xs.length:=(lV.1 hx).1;have tR:=BZ uU;have hxl:=(qf.lens x (lT hx)).1;have hbound:i*o.row.size+off+uv.cells.toList.length<=cur.size:=by
   rw[tR,rC];have:(i+1)*o.row.size<=o.cap*o.row.size:=mP _ (by omega);rw[mM]at this;omega
  have vq:∀u∈uv.cells.toList,u.oneCell'=true:=λu hu=>by
   obtain⟨j,hj⟩:=lv.1 hu;have uG:j<cs.length:=by rw[<- tR];exact (lV.1 hj).1
   obtain⟨u',sK,ry⟩:=CO uU j cs[j] (lZ uG);rw[hj]at sK;cases sK;exact Oi (rM _ (oD uG)) ry
  have qz:=run_storeCells_at P b (i*o.row.size+off) o.row.elem uv.cells.toList 0 cur w qv (by simpa using hbound) vq;simp only[nw]at qz;have sR:=hr.Pt (k:=k) (o':={ o with row:={ o.row with xs:=o.row.xs.set i (HG x off cs) } }) ho (w':=w.setRow b (cur.toList.take (i*o.row.size+off)++uv.cells.toList++cur.toList.drop (i*o.row.size+off+uv.cells.toList.length)).toArray)
   (by rw[hb];exact Hl.setRow _ _ _) (ll _) rfl (λ_=>⟨rfl,rfl,by simp⟩) (λg hg=>.inl hg) (λqk=>by
    have hdp:Kq (w.setRow b (cur.toList.take (i*o.row.size+off)++uv.cells.toList++cur.toList.drop (i*o.row.size+off+uv.cells.toList.length)).toArray) { o with row:={ o.row with xs:=o.row.xs.set i (HG x off cs) } }:=by
     obtain⟨D,d1,d2,d3⟩:=qf.deep;refine⟨D,d1,d2,λb' rO uH el l rR i' y j e s' ys hy hc=>?_⟩;simp only at rO hy⊢;rw[hb]at rO;cases rO;rw[pT w b cur _ _ _ qv]at rR;cases rR;have hold:∃y0,o.row.xs[i']?=some y0/\y0[j]?=some (.dv e s' ys)/\(i'≠i∨j<off∨off+cs.length<=j):=by
      by_cases wo:i'=i
      ·subst wo;rw[lp rv,lX]at hy;subst hy;rw[QF _ _ _ _ (by omega)]at hc;by_cases vR:j<off
       ·rw[ld vR]at hc;exact⟨x,hx,hc,.inr (.inl vR)⟩
       ·rw[la vR]at hc;by_cases vh:j<off+cs.length
        ·rw[ld vh]at hc;have:=rM _ (lT hc);simp[AV.leaf]at this
        ·rw[la vh]at hc;exact⟨x,hx,hc,.inr (.inr (by omega))⟩
      ·rw[mG (nK wo)]at hy;exact⟨y,hy,hc,.inl wo⟩
     obtain⟨y0,xU,sZ,rE⟩:=hold;obtain⟨u,q1,q2⟩:=d3 b hb cur _ _ qv i' y0 j e s' ys xU sZ;have uG:j<o.row.size:=by rw[<- (qf.lens y0 (lT xU)).1];exact (lV.1 sZ).1
     refine⟨u,?_,Mr (λ_ h=>h) (λc sL=>setRow_other w b c _ λe=>?_) _ u q2⟩
     ·rw[KM hbound,tR];rcases nG i' i with qw|wo|hgt
      ·have:(i'+1)*o.row.size<=i*o.row.size:=mP _ qw;rw[mM]at this;rw[ld (by omega)];exact q1
      ·subst wo;rcases rE with rE|rE|rE
       ·exact absurd rfl rE
       ·rw[ld (by omega)];exact q1
       ·rw[la (by omega),la (by omega)];exact q1
      ·have:(i+1)*o.row.size<=i'*o.row.size:=mP _ hgt;rw[mM]at this;rw[la (by omega),la (by omega)];exact q1
     ·subst e;exact (qf.mo _ (d1 _ _ _ sL)).2.2 hb
    refine⟨qf.pos,λy hy=>?_,(λhn=>by rw[hb]at hn;cases hn),λb' rO=>?_,λg hg=>⟨(qf.mo g hg).1,by simpa using (qf.mo g hg).2.1,(qf.mo g hg).2.2⟩,hdp⟩
    ·rcases mg hy with hy|rfl
     ·exact qf.lens y hy
     ·refine⟨Vy hxl (by simpa using sD),λc hc=>?_⟩;unfold HG at hc;simp only[lz]at hc;rcases hc with (hc|hc)|hc
      ·exact (qf.lens x (lT hx)).2 c (mq hc)
      ·exact D3 (rM c hc)
      ·exact (qf.lens x (lT hx)).2 c (nR hc)
    ·rw[hb]at rO;cases rO;refine⟨vQ,_,pT w b cur _ _ _ qv,?_,by simpa using hle,se,λi' y hy j c hc=>?_⟩
     ·simp only[oL,mD,nq,oE,nt] at *;omega
     ·simp only at hy⊢;rw[KM hbound];by_cases wo:i'=i
      ·subst wo;rw[lp rv,lX]at hy;subst hy;rw[QF _ _ _ _ (by omega)]at hc;by_cases vR:j<off
       ·rw[ld vR]at hc;obtain⟨u,h1,h2⟩:=qy _ _ hx j c hc;exact⟨u,by rw[ld (by omega)];exact h1,qk _ _ h2⟩
       ·rw[la vR]at hc;by_cases vh:j<off+cs.length
        ·rw[ld vh]at hc;obtain⟨u,h1,h2⟩:=CO uU _ _ hc;refine⟨u,?_,qk _ _ h2⟩;rw[la (by omega),ld (by rw[tR];omega),<- h1];congr 1;omega
        ·rw[la vh]at hc;obtain⟨u,h1,h2⟩:=qy _ _ hx j c hc;exact⟨u,by rw[la (by omega),la (by rw[tR];omega)];exact h1,qk _ _ h2⟩
      ·rw[mG (nK wo)]at hy;obtain⟨u,h1,h2⟩:=qy _ _ hy j c hc;have uG:j<o.row.size:=by rw[<- (qf.lens y (lT hy)).1];exact (lV.1 hc).1
       refine⟨u,?_,qk _ _ h2⟩;rcases Nat.lt_or_gt_of_ne wo with qw|hgt
       ·have:(i'+1)*o.row.size<=i*o.row.size:=mP _ qw;rw[mM]at this;rw[ld (by omega)];exact h1
       ·have:(i+1)*o.row.size<=i'*o.row.size:=mP _ hgt;rw[mM]at this;rw[la (by omega),la (by rw[tR];omega)];exact h1)
  refine⟨_,_,_,hk,?_,sR.1,sR.2.1⟩;have hszt:(sizeOf t).run P w=.ok ti.2 w:=by simp[sizeOf,typeInfo,hi,e2]
  have:uv.cells.size=ti.2:=by rw[<- hlen,<- tR];simp
  simp[Instr.storeAt,Instr.sureAddr,storeVar,hszt,this,qz]
 | _=>exact h.elim
theorem Xo {t:TypeId}{l c:AV}{ul uc:Value}{K:AV->List Row->Prop}(hr:Rel F os s a w)(h:cM P s.st t l c K)(hl:Ae F w os l ul)(hc:Ae F w os c uc):H9 P k F os s a w (Instr.makeSlice t ul uc) K:=by
 obtain⟨ei,he,h⟩:=BP h;obtain⟨inf,z,hu,hi,hz,tP,rQ,rC,hby,hzero,hzl⟩:=IS he;cases l with
 | int kl n=>
  cases c with
  | int kc m=>
   obtain⟨rfl,h0,hb,hm,hk⟩:=h;simp only[Ae]at hl hc;subst hl;subst hc;obtain⟨N,rfl⟩:=mS h0;simp only[nY]at hk;have rB:=run_make (P:=P) w t ei.e inf z hu hi hz kl kc N N (by omega) (Int.le_refl _) (by rw[<- hby,Int.mul_comm];omega) (by omega);simp only[nY]at rB;have hzl':ei.zero.length=ei.size:=by rw[hzero,rC,<- tP];simp
   have:=hr.Oa (k:=k) (.inl rfl) (cur:=madeCells z.cells (N*inf.size)) (e:=ei.e) (size:=ei.size) (cap:=N) (xs:=List.replicate N ei.zero) (by omega)
    (λx hx=>by rw[pN]at hx;rw[hx.2];exact⟨hzl',hzl⟩) (by rw[size_madeCells,rC]) (by simp) (by simp[maxLen];omega) (λi x hx j c hc=>by
     rw[List.getElem?_replicate]at hx;split at hx<;>simp only[lX,reduceCtorEq]at hx;subst hx;rename_i hiN;have uG:j<ei.size:=by rw[<- hzl'];exact (lV.1 hc).1
     have vh:j<z.cells.size:=by omega
     refine⟨z.cells[j],?_,?_⟩
     ·have qw:i*ei.size+j<N*inf.size:=by
       have:(i+1)*ei.size<=N*ei.size:=mP _ hiN;rw[mM]at this;rw[<- rC];omega
      have uq:(i*ei.size+j) % z.cells.size=j:=by rw[tP,<- rC,pc,Nat.mul_add_mod];exact oQ uG
      simp[madeCells,qw,uq,vh]
     ·rw[hzero]at hc;simp only[lW,nk,mw vh,mZ,lX]at hc;subst hc;exact MI F w os _)
   refine⟨_,_,_,_,_,hk,rB,this.1,?_,this.2.1⟩;simp only[Ae];refine⟨⟨⟨0,ei.e,ei.size,List.replicate N ei.zero⟩,some w.heap.size,N,Fe⟩,by rw[hr.len];simp,by simp,⟨_,_,_,rfl⟩,λ_=>⟨by simp,.inr ⟨_,rfl,by simp⟩⟩⟩
  | _=>exact h.elim
 | _=>cases c<;>exact h.elim
structure Src (F:Nat->Prop) (w:World) (os:List Own) (u:Value) (ys:List (List AV)) (size:Nat):Prop where
 shape :∃ad c,u=.slice ad ys.length c/\(ys=[]∨∃b o,ad=some ⟨b,o,none⟩/\∀(i:Nat) y,ys[i]?=some y->NB F w os b (o+i*size) y)
theorem WX {x:AV}{u:Value}{size:Nat}{K:List (List AV)->Prop}(hr:Rel F os s a w)(h:Y5 s.st x λys=>(∀y∈ys,y.length=size)/\K ys)(hx:Ae F w os x u):∃ys,K ys/\(∀y∈ys,y.length=size)/\(ys=[]∨∀y∈ys,∀c∈y,c.leaf=true)/\Src F w os u ys size:=by
 cases x with
 | sl ys=>
  obtain⟨rC,hk⟩:=h;simp only[Ae]at hx;obtain⟨ad,cap,rfl,_,rE⟩:=hx;by_cases he:ys=[]
  ·exact⟨ys,hk,rC,.inl he,⟨ad,cap,rfl,.inl he⟩⟩
  ·obtain⟨b,o,sz,rfl,hb,hss,sA⟩:=rE he;refine⟨ys,hk,rC,.inr λy hy c hc=>?_,⟨_,cap,rfl,?_⟩⟩
   ·obtain⟨i,hi⟩:=lv.1 hy;obtain⟨j,hj⟩:=lv.1 hc;obtain⟨_,_,h2,_⟩:=Jw (IT hss sA i y hi) j c hj;exact h2
   have:sz=size:=by
    obtain⟨y,hy⟩:=List.exists_mem_of_ne_nil ys he;rw[<- hss y hy,rC y hy]
   subst this;exact .inr ⟨b,o,rfl,λi y hy=>LP (IT hss sA i y hy)⟩
 | zc=>
  obtain⟨rC,hk⟩:=h;simp only[Ae]at hx;obtain⟨ad,rfl⟩:=hx;exact⟨[],hk,by simp,.inl rfl,⟨ad,0,rfl,.inl rfl⟩⟩
 | own id g n=>
  obtain⟨row,qc,hg,rf,xV,rC,hk⟩:=BP h;obtain⟨o,ho,rfl⟩:=hr.row qc;simp only[Ae]at hx;obtain⟨o',rH,tz,_,hx⟩:=hx;rw[ho]at rH;cases rH;obtain⟨hle,hx⟩:=hx hg;simp only[MM xV]at hx;refine⟨_,hk,rC,.inr (λy hy=>rf y (mq hy)),?_⟩;have hlen:(o.row.xs.take n).length=n:=by simp;omega
  rcases hx with ⟨hb,ad,rfl⟩|⟨b,hb,rfl⟩
  ·have:=((hr.rows id o ho).none hb).1;exact⟨ad,0,by rw[hlen],.inl (by rw[this];simp)⟩
  ·refine⟨_,o.cap,by rw[hlen],.inr ⟨b,0,rfl,λi y hy=>?_⟩⟩;have xU:=hy;rw[mJ]at hy;split at hy
   ·have h1:=hr.N9 ho hb hy;have:o.row.size=size:=by
     rw[<- rC y (lT xU)];exact (((hr.rows id o ho).lens y (lT hy)).1).symm
    rw[this]at h1;simpa using h1
   ·cases hy
 | _=>exact h.elim
theorem QV {b o size:Nat}{ys:List (List AV)}(rC :∀y∈ys,y.length=size)(h :∀(i:Nat) y,ys[i]?=some y->NB F w os b (o+i*size) y):
  ∃us:List Value,us.length=ys.length*size/\(∀(j:Nat) u,us[j]?=some u->w.cell? ((⟨b,o,none⟩:Addr).add j)=some u)/\(∀u∈us,u.oneCell'=true)/\
   ∀(i:Nat) y,ys[i]?=some y->∀(j:Nat) c,y[j]?=some c->∃u,us[i*size+j]?=some u/\c.kept=true/\Ae F w os c u:=by
 have hat:∀j,j<ys.length*size->∃i y c,j=i*size+j % size/\ys[i]?=some y/\y[j % size]?=some c:=λj hj=>by
  have rQ:0<size:=Nat.pos_of_ne_zero (by rintro rfl;simp at hj);have hi:j / size<ys.length:=by rw[Nat.div_lt_iff_lt_mul rQ];exact hj
  have hjm:j % size<(ys[j / size]).length:=by rw[rC _ (oD hi)];exact Nat.mod_lt _ rQ
  exact⟨j / size,ys[j / size],(ys[j / size])[j % size],by rw[pc];exact (Nat.div_add_mod j size).symm,lZ hi,lZ hjm⟩
 refine⟨(List.range (ys.length*size)).map λj=>(w.cell? ((⟨b,o,none⟩:Addr).add j)).getD undef,by simp,λj u hu=>?_,λu hu=>?_,λi y hy j c hc=>?_⟩
 ·have hj:j<ys.length*size:=by have:=(lV.1 hu).1;simpa using this
  simp only[lW,nM hj,mZ,lX]at hu;obtain⟨i,y,c,he,hy,hc⟩:=hat j hj;obtain⟨u',h1,_⟩:=h i y hy _ c hc;rw[DK,he,<- nS]at hu⊢;rw[h1]at hu⊢;simp only[ng]at hu;rw[hu]
 ·obtain⟨j,hj,rfl⟩:=mA.1 hu;rw[na]at hj;obtain⟨i,y,c,he,hy,hc⟩:=hat j hj;obtain⟨u',h1,h2,h3⟩:=h i y hy _ c hc;rw[DK,he,<- nS,h1];exact XB h2 h3
 ·have hi:=(lV.1 hy).1;have uG:j<size:=by rw[<- rC y (lT hy)];exact (lV.1 hc).1
  obtain⟨u,h1,h2,h3⟩:=h i y hy j c hc;have qw:i*size+j<ys.length*size:=by
   have:(i+1)*size<=ys.length*size:=mP _ hi;rw[mM]at this;omega
  refine⟨u,?_,h2,h3⟩;simp only[lW,nM qw,mZ,DK,<- nS,h1,ng]
end Go.Abs
