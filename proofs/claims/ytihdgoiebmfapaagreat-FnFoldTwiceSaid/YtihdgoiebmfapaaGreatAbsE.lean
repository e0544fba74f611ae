import Derived.Test.YtihdgoiebmfapaaGreatAbsD
namespace Go.Abs
open Go
def KP (v:AV):Option (List AV):=
 match v with
 | .agg cs=>if cs.all AV.leaf then some cs else none
 | v=>if v.leaf then some [v] else none
def IC (P:Program)(e:TypeId):Option (List AV):=
 match P.info? e with
 | some i=>match i.zero with
  | some z=>if (z.cells.toList.map Mj).all AV.leaf&&!z.cells.isEmpty then some (z.cells.toList.map Mj) else none
  | none=>none
 | none=>none
def G5 (x:List AV)(off:Nat)(cs:List AV):List AV:=x.take off++cs++x.drop (off+cs.length)
def bS (P:Program)(e:TypeId)(st:List Row)(K:AV->List Row->Prop):Prop:=
 Ff (IC P e) λz=>K (.ptr st.length 0 0 0) (st++[⟨0,e,z.length,[z]⟩])
def gM (e:TypeId)(st:List Row)(v:AV)(K:AV->List Row->Prop):Prop:=
 Ff (KP v) λcs=>cs≠[]/\K (.ptr st.length 0 0 0) (st++[⟨0,e,cs.length,[cs]⟩])
def Xz (P:Program)(st:List Row)(t:TypeId)(p v:AV)(K:List Row->Prop):Prop:=
 Ff (D7 P t) λti=>match p with
  | .ptr id g i off=>Ff st[id]? λrow=>row.gen=g/\Ff row.xs[i]? λx=>Ff (KP v) λcs=>
    cs.length=ti.2/\off+cs.length<=row.size/\K (st.set id { row with xs:=row.xs.set i (G5 x off cs) })
  | _=>False
def aO (P:Program)(st:List Row)(t:TypeId)(l c:AV)(K:AV->List Row->Prop):Prop:=
 Ff (D4 P t) λei=>match l,c with
  | .int _ n,.int _ m=>n=m/\0<=n/\n*(ei.bytes:Int)<=281474976710656/\n<=9223372036854775807/\K (.own st.length 0 n.toNat) (st++[⟨0,ei.e,ei.size,List.replicate n.toNat ei.zero⟩])
  | _,_=>False
def YD (st:List Row)(x:AV)(K:List (List AV)->Prop):Prop:=
 match x with
 | .sl ys=>K ys
 | .zc=>K []
 | .own id g n=>Ff st[id]? λrow=>row.gen=g/\(∀y∈row.xs,∀c∈y,c.leaf=true)/\n=row.xs.length/\K (row.xs.take n)
 | _=>False
def VI (P:Program)(st:List Row)(t:TypeId)(d x:AV)(K:AV->List Row->Prop):Prop:=
 Ff (D4 P t) λei=>YD st x λys=>(∀y∈ys,y.length=ei.size)/\match d with
  | .zc=>ys.length*ei.bytes<=140737488355328/\ys.length<=9223372036854775807/\K (.own st.length 0 ys.length) (st++[⟨0,ei.e,ei.size,ys⟩])
  | .own id g n=>Ff st[id]? λrow=>row.gen=g/\n=row.xs.length/\row.elem=ei.e/\row.size=ei.size/\(n+ys.length)*ei.bytes<=140737488355328/\n+ys.length<=9223372036854775807/\
    K (.own id (g+1) (n+ys.length)) (st.set id { row with gen:=g+1,xs:=row.xs.take n++ys })
  | _=>False
variable {P : Program} {F : Nat -> Prop} {os : List Own} {s : St} {a : Act} {w : World} {k : Nat}
def Hl (P:Program)(k:Nat)(F:Nat->Prop)(os:List Own)(s:St)(a:Act)(w:World)(sem:Sem Value)(K:AV->List Row->Prop):Prop:=
 ∃v st' u w' os',K v st'/\sem.run P w=.ok u w'/\Rel F os' { s with st:=st' } a w'/\Ae F w' os' v u/\Ext F os w F os' w' k
theorem Rel.len (hr:Rel F os s a w):s.st.length=os.length:=by rw[<- hr.st];simp
theorem Yq (hr:Rel F os s a w){w':World}{o:Own}(hb:o.Fe=some w.heap.size)(hx:0<o.row.xs.length)(hg:o.row.gen=0):Ae F w' (os++[o]) (.ptr s.st.length 0 0 0) (.pointer (some ⟨w.heap.size,0,none⟩)):=by
 simp only[Ae];exact⟨o,by rw[hr.len];simp,by omega,⟨_,rfl⟩,λ_=>⟨hx,kE _,_,hb,by simp⟩⟩
theorem O0 {v:AV}{u:Value}{cs:List AV}(h:KP v=some cs)(hv:Ae F w os v u):Br F w os cs u.cells.toList/\(∀c∈cs,c.leaf=true):=by
 cases v with
 | agg xs=>
  simp only[KP]at h;split at h<;>simp only[jh,reduceCtorEq]at h;subst h;rename_i hl;simp only[Ae]at hv;obtain⟨us,rfl,hus⟩:=hv;exact⟨by simpa [Value.cells] using hus,λc hc=>jq.1 hl c hc⟩
 | _=>
  simp only[KP]at h;split at h<;>simp only[jh,reduceCtorEq]at h;subst h;rename_i hl;refine⟨?_,by simpa using hl⟩;have h1:=OM hl hv;have:u.cells.toList=[u]:=by cases u<;>simp_all [Value.cells,Value.oneCell']
  rw[this];simp only[Br];exact⟨u,[],rfl,hv,rfl⟩
theorem VE (hr:Rel F os s a w){e:TypeId}{v:Value}{cs:List AV}(hl:Br F w os cs v.cells.toList)(hleaf :∀c∈cs,c.leaf=true)(hne:cs≠[]){K:AV->List Row->Prop}
  (hk:K (.ptr s.st.length 0 0 0) (s.st++[⟨0,e,cs.length,[cs]⟩])):Hl P k F os s a w (do pure (.pointer (some (← newVar e v)))) K:=by
 have hlen:=BY hl;simp only[ly]at hlen;have hpos:0<cs.length:=nE.2 hne;have:=hr.OS (k:=k) (.inl rfl) (cur:=v.cells) (e:=e) (size:=cs.length) (cap:=1) (xs:=[cs]) hpos (by simpa using hleaf) (by simpa using hlen) (by simp) (by simp[maxLen]) (λi x hx j c hc=>by
  cases i with
  | zero=>
   simp only[kK,jh]at hx;subst hx;obtain⟨u,h1,h2⟩:=CN hl j c hc;exact⟨u,by simpa using h1,h2⟩
  | succ i=>simp at hx)
 refine⟨_,_,.pointer (some ⟨w.heap.size,0,none⟩),_,_,hk,?_,this.1,Yq hr rfl (by simp) rfl,this.2.1⟩;simp[newVar,newRow]
theorem eX {e:TypeId}{v:AV}{u:Value}{K:AV->List Row->Prop}(hr:Rel F os s a w)(h:gM e s.st v K)(hv:Ae F w os v u):Hl P k F os s a w (Instr.box e u) K:=by
 obtain⟨cs,hcs,hne,hk⟩:=BN h;obtain⟨h1,h2⟩:=O0 hcs hv;exact VE hr h1 h2 hne hk
theorem Tg {e:TypeId}{z:List AV}(h:IC P e=some z):∃i v,P.info? e=some i/\i.zero=some v/\z=v.cells.toList.map Mj/\(∀c∈z,c.leaf=true)/\z≠[]:=by
 unfold IC at h;split at h<;>try (cases h;done)
 rename_i i hi;split at h<;>try (cases h;done)
 rename_i v hv;split at h<;>try (cases h;done)
 rename_i hc;simp only[kF,Bool.not_eq_true',Array.isEmpty_eq_false_iff]at hc;simp only[jh]at h;subst h;refine⟨i,v,hi,hv,rfl,λc hm=>jq.1 hc.1 c hm,?_⟩;simpa using hc.2
theorem Zk {e:TypeId}{K:AV->List Row->Prop}(hr:Rel F os s a w)(h:bS P e s.st K):Hl P k F os s a w (Instr.alloc e true (.tuple #[])) K:=by
 obtain⟨z,hz,hk⟩:=BN h;obtain⟨i,v,hi,hv,rfl,hl,hne⟩:=Tg hz;obtain⟨x,st',u,w',os',h1,h2,h3⟩:=VE (P:=P) (k:=k) (v:=v) hr (N4 F w os _) hl hne hk;refine⟨x,st',u,w',os',h1,?_,h3⟩;have hz':(zeroValue e).run P w=.ok v w:=by simp[zeroValue,typeInfo,hi,hv]
 simpa [Instr.alloc,hz'] using h2
theorem VS {x cs:List AV}{off n:Nat}(hx:x.length=n)(h:off+cs.length<=n):(G5 x off cs).length=n:=by
 simp[G5];omega
theorem O2 (x cs:List AV)(off j:Nat)(hoff:off<=x.length):(G5 x off cs)[j]?=if j<off then x[j]? else if j<off+cs.length then cs[j-off]? else x[j]?:=by
 unfold G5;by_cases h1:j<off
 ·rw[jm h1,lG,jr (by simp;omega),kL,jm h1]
 ·rw[jn h1];by_cases h2:j<off+cs.length
  ·rw[jm h2,jr (by simp;omega),jt (by simp;omega)];simp[ma hoff]
  ·rw[jn h2,jt (by simp;omega),kW];congr 1;simp[ma hoff];omega
theorem J6 {cur:Array Value}{us:List Value}{p j:Nat}(h:p+us.length<=cur.size):
  ((cur.toList.take p++us++cur.toList.drop (p+us.length)).toArray)[j]?=if j<p then cur[j]? else if j<p+us.length then us[j-p]? else cur[j]?:=by
 simp only[mN];by_cases h1:j<p
 ·rw[jm h1,lG,jr (by simp;omega),kL,jm h1];simp
 ·rw[jn h1];by_cases h2:j<p+us.length
  ·rw[jm h2,jr (by simp;omega),jt (by simp;omega)];congr 1;simp;omega
  ·rw[jn h2,jt (by simp;omega),kW];simp only[kD,lu,ly,lq];congr 1;omega
theorem aD {t:TypeId}{p v:AV}{up uv:Value}{K:List Row->Prop}(hr:Rel F os s a w)(h:Xz P s.st t p v K)(hp:Ae F w os p up)(hv:Ae F w os v uv):
  ∃st' w' os',K st'/\(Instr.storeAt t up uv).run P w=.ok () w'/\Rel F os' { s with st:=st' } a w'/\Ext F os w F os' w' k:=by
 obtain⟨ti,ht,h⟩:=BN h;obtain⟨d,inf,hud,hi,_,e2⟩:=I9 ht;cases p with
 | ptr id g i off=>
  obtain⟨row,hrow,hg,h0⟩:=BN h;obtain⟨x,hx,h1⟩:=BN h0;obtain⟨cs,hcs,hlen,hfit,hk⟩:=BN h1;obtain⟨o,ho,rfl⟩:=hr.row hrow;simp only[Ae]at hp;obtain⟨o',ho',hge,_,hp⟩:=hp;rw[ho]at ho';cases ho';obtain⟨_,_,b,hb,rfl⟩:=hp hg;obtain⟨hrl,hleaf⟩:=O0 hcs hv;have hok:=hr.rows id o ho;obtain⟨hnF,cur,hcur,hsz,hle,hmax,hcells⟩:=hok.some b hb;have hil:i<o.row.xs.length:=(jg.1 hx).1;have hulen:=BY hrl;have hxl:=(hok.lens x (je hx)).1;have hbound:i*o.row.size+off+uv.cells.toList.length<=cur.size:=by
   rw[hulen,hsz];have:(i+1)*o.row.size<=o.cap*o.row.size:=kS _ (by omega);rw[kP]at this;omega
  have hone:∀u∈uv.cells.toList,u.oneCell'=true:=λu hu=>by
   obtain⟨j,hj⟩:=jz.1 hu;have hjl:j<cs.length:=by rw[<- hulen];exact (jg.1 hj).1
   obtain⟨u',hu',hr'⟩:=CN hrl j cs[j] (jl hjl);rw[hj]at hu';cases hu';exact OM (hleaf _ (mH hjl)) hr'
  have hst:=run_storeCells_at P b (i*o.row.size+off) o.row.elem uv.cells.toList 0 cur w hcur (by simpa using hbound) hone;simp only[mA]at hst;have hturn:=hr.PE (k:=k) (o':={ o with row:={ o.row with xs:=o.row.xs.set i (G5 x off cs) } }) ho (w':=w.setRow b (cur.toList.take (i*o.row.size+off)++uv.cells.toList++cur.toList.drop (i*o.row.size+off+uv.cells.toList.length)).toArray)
   (by rw[hb];exact HY.setRow _ _ _) (jv _) rfl (λ_=>⟨rfl,rfl,by simp⟩) (λg hg=>.inl hg) (λhmono=>by
    have hdp:KO (w.setRow b (cur.toList.take (i*o.row.size+off)++uv.cells.toList++cur.toList.drop (i*o.row.size+off+uv.cells.toList.length)).toArray) { o with row:={ o.row with xs:=o.row.xs.set i (G5 x off cs) } }:=by
     obtain⟨D,d1,d2,d3⟩:=hok.deep;refine⟨D,d1,d2,λb' hb' cur' el l hcur' i' y j e s' ys hy hc=>?_⟩;simp only at hb' hy⊢;rw[hb]at hb';cases hb';rw[nS w b cur _ _ _ hcur]at hcur';cases hcur';have hold:∃y0,o.row.xs[i']?=some y0/\y0[j]?=some (.dv e s' ys)/\(i'≠i∨j<off∨off+cs.length<=j):=by
      by_cases hii:i'=i
      ·subst hii;rw[ju hil,jh]at hy;subst hy;rw[O2 _ _ _ _ (by omega)]at hc;by_cases hj1:j<off
       ·rw[jm hj1]at hc;exact⟨x,hx,hc,.inr (.inl hj1)⟩
       ·rw[jn hj1]at hc;by_cases hj2:j<off+cs.length
        ·rw[jm hj2]at hc;have:=hleaf _ (je hc);simp[AV.leaf]at this
        ·rw[jn hj2]at hc;exact⟨x,hx,hc,.inr (.inr (by omega))⟩
      ·rw[kG (lK hii)]at hy;exact⟨y,hy,hc,.inl hii⟩
     obtain⟨y0,hy0,hc0,hne⟩:=hold;obtain⟨u,q1,q2⟩:=d3 b hb cur _ _ hcur i' y0 j e s' ys hy0 hc0;have hjl:j<o.row.size:=by rw[<- (hok.lens y0 (je hy0)).1];exact (jg.1 hc0).1
     refine⟨u,?_,MH (λ_ h=>h) (λc hcm=>setRow_other w b c _ λe=>?_) _ u q2⟩
     ·rw[J6 hbound,hulen];rcases lH i' i with hlt|hii|hgt
      ·have:(i'+1)*o.row.size<=i*o.row.size:=kS _ hlt;rw[kP]at this;rw[jm (by omega)];exact q1
      ·subst hii;rcases hne with hne|hne|hne
       ·exact absurd rfl hne
       ·rw[jm (by omega)];exact q1
       ·rw[jn (by omega),jn (by omega)];exact q1
      ·have:(i+1)*o.row.size<=i'*o.row.size:=kS _ hgt;rw[kP]at this;rw[jn (by omega),jn (by omega)];exact q1
     ·subst e;exact (hok.mo _ (d1 _ _ _ hcm)).2.2 hb
    refine⟨hok.pos,λy hy=>?_,(λhn=>by rw[hb]at hn;cases hn),λb' hb'=>?_,λg hg=>⟨(hok.mo g hg).1,by simpa using (hok.mo g hg).2.1,(hok.mo g hg).2.2⟩,hdp⟩
    ·rcases kp hy with hy|rfl
     ·exact hok.lens y hy
     ·refine⟨VS hxl (by simpa using hfit),λc hc=>?_⟩;unfold G5 at hc;simp only[kJ]at hc;rcases hc with (hc|hc)|hc
      ·exact (hok.lens x (je hx)).2 c (kv hc)
      ·exact D0 (hleaf c hc)
      ·exact (hok.lens x (je hx)).2 c (lQ hc)
    ·rw[hb]at hb';cases hb';refine⟨hnF,_,nS w b cur _ _ _ hcur,?_,by simpa using hle,hmax,λi' y hy j c hc=>?_⟩
     ·simp only[mO,kD,lu,mI,ly] at *;omega
     ·simp only at hy⊢;rw[J6 hbound];by_cases hii:i'=i
      ·subst hii;rw[ju hil,jh]at hy;subst hy;rw[O2 _ _ _ _ (by omega)]at hc;by_cases hj1:j<off
       ·rw[jm hj1]at hc;obtain⟨u,h1,h2⟩:=hcells _ _ hx j c hc;exact⟨u,by rw[jm (by omega)];exact h1,hmono _ _ h2⟩
       ·rw[jn hj1]at hc;by_cases hj2:j<off+cs.length
        ·rw[jm hj2]at hc;obtain⟨u,h1,h2⟩:=CN hrl _ _ hc;refine⟨u,?_,hmono _ _ h2⟩;rw[jn (by omega),jm (by rw[hulen];omega),<- h1];congr 1;omega
        ·rw[jn hj2]at hc;obtain⟨u,h1,h2⟩:=hcells _ _ hx j c hc;exact⟨u,by rw[jn (by omega),jn (by rw[hulen];omega)];exact h1,hmono _ _ h2⟩
      ·rw[kG (lK hii)]at hy;obtain⟨u,h1,h2⟩:=hcells _ _ hy j c hc;have hjl:j<o.row.size:=by rw[<- (hok.lens y (je hy)).1];exact (jg.1 hc).1
       refine⟨u,?_,hmono _ _ h2⟩;rcases Nat.lt_or_gt_of_ne hii with hlt|hgt
       ·have:(i'+1)*o.row.size<=i*o.row.size:=kS _ hlt;rw[kP]at this;rw[jm (by omega)];exact h1
       ·have:(i+1)*o.row.size<=i'*o.row.size:=kS _ hgt;rw[kP]at this;rw[jn (by omega),jn (by rw[hulen];omega)];exact h1)
  refine⟨_,_,_,hk,?_,hturn.1,hturn.2.1⟩;have hszt:(sizeOf t).run P w=.ok ti.2 w:=by simp[sizeOf,typeInfo,hi,e2]
  have:uv.cells.size=ti.2:=by rw[<- hlen,<- hulen];simp
  simp[Instr.storeAt,Instr.sureAddr,storeVar,hszt,this,hst]
 | _=>exact h.elim
theorem XA {t:TypeId}{l c:AV}{ul uc:Value}{K:AV->List Row->Prop}(hr:Rel F os s a w)(h:aO P s.st t l c K)(hl:Ae F w os l ul)(hc:Ae F w os c uc):Hl P k F os s a w (Instr.makeSlice t ul uc) K:=by
 obtain⟨ei,he,h⟩:=BN h;obtain⟨inf,z,hu,hi,hz,hzs,hpos,hsz,hby,hzero,hzl⟩:=H8 he;cases l with
 | int kl n=>
  cases c with
  | int kc m=>
   obtain⟨rfl,h0,hb,hm,hk⟩:=h;simp only[Ae]at hl hc;subst hl;subst hc;obtain⟨N,rfl⟩:=kZ h0;simp only[lY]at hk;have hrun:=run_make (P:=P) w t ei.e inf z hu hi hz kl kc N N (by omega) (Int.le_refl _) (by rw[<- hby,Int.mul_comm];omega) (by omega);simp only[lY]at hrun;have hzl':ei.zero.length=ei.size:=by rw[hzero,hsz,<- hzs];simp
   have:=hr.OS (k:=k) (.inl rfl) (cur:=madeCells z.cells (N*inf.size)) (e:=ei.e) (size:=ei.size) (cap:=N) (xs:=List.replicate N ei.zero) (by omega)
    (λx hx=>by rw[nM]at hx;rw[hx.2];exact⟨hzl',hzl⟩) (by rw[size_madeCells,hsz]) (by simp) (by simp[maxLen];omega) (λi x hx j c hc=>by
     rw[List.getElem?_replicate]at hx;split at hx<;>simp only[jh,reduceCtorEq]at hx;subst hx;rename_i hiN;have hjl:j<ei.size:=by rw[<- hzl'];exact (jg.1 hc).1
     have hj2:j<z.cells.size:=by omega
     refine⟨z.cells[j],?_,?_⟩
     ·have hlt:i*ei.size+j<N*inf.size:=by
       have:(i+1)*ei.size<=N*ei.size:=kS _ hiN;rw[kP]at this;rw[<- hsz];omega
      have hmod:(i*ei.size+j) % z.cells.size=j:=by rw[hzs,<- hsz,nf,Nat.mul_add_mod];exact mT hjl
      simp[madeCells,hlt,hmod,hj2]
     ·rw[hzero]at hc;simp only[ji,lq,lA hj2,kb,jh]at hc;subst hc;exact Lq F w os _)
   refine⟨_,_,_,_,_,hk,hrun,this.1,?_,this.2.1⟩;simp only[Ae];refine⟨⟨⟨0,ei.e,ei.size,List.replicate N ei.zero⟩,some w.heap.size,N,FW⟩,by rw[hr.len];simp,by simp,⟨_,_,_,rfl⟩,λ_=>⟨by simp,.inr ⟨_,rfl,by simp⟩⟩⟩
  | _=>exact h.elim
 | _=>cases c<;>exact h.elim
structure Src (F:Nat->Prop) (w:World) (os:List Own) (u:Value) (ys:List (List AV)) (size:Nat):Prop where
 shape :∃ad c,u=.slice ad ys.length c/\(ys=[]∨∃b o,ad=some ⟨b,o,none⟩/\∀(i:Nat) y,ys[i]?=some y->Md F w os b (o+i*size) y)
theorem Vz {x:AV}{u:Value}{size:Nat}{K:List (List AV)->Prop}(hr:Rel F os s a w)(h:YD s.st x λys=>(∀y∈ys,y.length=size)/\K ys)(hx:Ae F w os x u):∃ys,K ys/\(∀y∈ys,y.length=size)/\(ys=[]∨∀y∈ys,∀c∈y,c.leaf=true)/\Src F w os u ys size:=by
 cases x with
 | sl ys=>
  obtain⟨hsz,hk⟩:=h;simp only[Ae]at hx;obtain⟨ad,cap,rfl,_,hne⟩:=hx;by_cases he:ys=[]
  ·exact⟨ys,hk,hsz,.inl he,⟨ad,cap,rfl,.inl he⟩⟩
  ·obtain⟨b,o,sz,rfl,hb,hss,hrows⟩:=hne he;refine⟨ys,hk,hsz,.inr λy hy c hc=>?_,⟨_,cap,rfl,?_⟩⟩
   ·obtain⟨i,hi⟩:=jz.1 hy;obtain⟨j,hj⟩:=jz.1 hc;obtain⟨_,_,h2,_⟩:=Jj (IF hss hrows i y hi) j c hj;exact h2
   have:sz=size:=by
    obtain⟨y,hy⟩:=List.exists_mem_of_ne_nil ys he;rw[<- hss y hy,hsz y hy]
   subst this;exact .inr ⟨b,o,rfl,λi y hy=>Kw (IF hss hrows i y hy)⟩
 | zc=>
  obtain⟨hsz,hk⟩:=h;simp only[Ae]at hx;obtain⟨ad,rfl⟩:=hx;exact⟨[],hk,by simp,.inl rfl,⟨ad,0,rfl,.inl rfl⟩⟩
 | own id g n=>
  obtain⟨row,hrow,hg,hlf,hnw,hsz,hk⟩:=BN h;obtain⟨o,ho,rfl⟩:=hr.row hrow;simp only[Ae]at hx;obtain⟨o',ho',hge,_,hx⟩:=hx;rw[ho]at ho';cases ho';obtain⟨hle,hx⟩:=hx hg;simp only[L4 hnw]at hx;refine⟨_,hk,hsz,.inr (λy hy=>hlf y (kv hy)),?_⟩;have hlen:(o.row.xs.take n).length=n:=by simp;omega
  rcases hx with ⟨hb,ad,rfl⟩|⟨b,hb,rfl⟩
  ·have:=((hr.rows id o ho).none hb).1;exact⟨ad,0,by rw[hlen],.inl (by rw[this];simp)⟩
  ·refine⟨_,o.cap,by rw[hlen],.inr ⟨b,0,rfl,λi y hy=>?_⟩⟩;have hy0:=hy;rw[kL]at hy;split at hy
   ·have h1:=hr.Nw ho hb hy;have:o.row.size=size:=by
     rw[<- hsz y (je hy0)];exact (((hr.rows id o ho).lens y (je hy)).1).symm
    rw[this]at h1;simpa using h1
   ·cases hy
 | _=>exact h.elim
theorem Pn {b o size:Nat}{ys:List (List AV)}(hsz :∀y∈ys,y.length=size)(h :∀(i:Nat) y,ys[i]?=some y->Md F w os b (o+i*size) y):
  ∃us:List Value,us.length=ys.length*size/\(∀(j:Nat) u,us[j]?=some u->w.cell? ((⟨b,o,none⟩:Addr).add j)=some u)/\(∀u∈us,u.oneCell'=true)/\
   ∀(i:Nat) y,ys[i]?=some y->∀(j:Nat) c,y[j]?=some c->∃u,us[i*size+j]?=some u/\c.kept=true/\Ae F w os c u:=by
 have hat:∀j,j<ys.length*size->∃i y c,j=i*size+j % size/\ys[i]?=some y/\y[j % size]?=some c:=λj hj=>by
  have hpos:0<size:=Nat.pos_of_ne_zero (by rintro rfl;simp at hj);have hi:j / size<ys.length:=by rw[Nat.div_lt_iff_lt_mul hpos];exact hj
  have hjm:j % size<(ys[j / size]).length:=by rw[hsz _ (mH hi)];exact Nat.mod_lt _ hpos
  exact⟨j / size,ys[j / size],(ys[j / size])[j % size],by rw[nf];exact (Nat.div_add_mod j size).symm,jl hi,jl hjm⟩
 refine⟨(List.range (ys.length*size)).map λj=>(w.cell? ((⟨b,o,none⟩:Addr).add j)).getD undef,by simp,λj u hu=>?_,λu hu=>?_,λi y hy j c hc=>?_⟩
 ·have hj:j<ys.length*size:=by have:=(jg.1 hu).1;simpa using this
  simp only[ji,lN hj,kb,jh]at hu;obtain⟨i,y,c,he,hy,hc⟩:=hat j hj;obtain⟨u',h1,_⟩:=h i y hy _ c hc;rw[DE,he,<- lS]at hu⊢;rw[h1]at hu⊢;simp only[lg]at hu;rw[hu]
 ·obtain⟨j,hj,rfl⟩:=kC.1 hu;rw[lp]at hj;obtain⟨i,y,c,he,hy,hc⟩:=hat j hj;obtain⟨u',h1,h2,h3⟩:=h i y hy _ c hc;rw[DE,he,<- lS,h1];exact WM h2 h3
 ·have hi:=(jg.1 hy).1;have hjl:j<size:=by rw[<- hsz y (je hy)];exact (jg.1 hc).1
  obtain⟨u,h1,h2,h3⟩:=h i y hy j c hc;have hlt:i*size+j<ys.length*size:=by
   have:(i+1)*size<=ys.length*size:=kS _ hi;rw[kP]at this;omega
  refine⟨u,?_,h2,h3⟩;simp only[ji,lN hlt,kb,DE,<- lS,h1,lg]
end Go.Abs
