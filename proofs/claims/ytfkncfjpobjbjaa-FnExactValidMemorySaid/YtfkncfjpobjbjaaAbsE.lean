import Derived.Test.YtfkncfjpobjbjaaAbsD
set_option linter.all false
namespace Go.Abs
open Go
def EZ (v:AV):Option (List AV):=
 match v with
 | .agg cs=>if cs.all AV.leaf then some cs else none
 | v=>if v.leaf then some [v] else none
def FC (P:Program)(e:TypeId):Option (List AV):=
 match P.info? e with
 | some i=>match i.zero with
  | some z=>if (z.cells.toList.map E4).all AV.leaf&&!z.cells.isEmpty then some (z.cells.toList.map E4) else none
  | none=>none
 | none=>none
def Cn (x:List AV)(off:Nat)(cs:List AV):List AV:=x.take off++cs++x.drop (off+cs.length)
def Ni (P:Program)(e:TypeId)(st:List Row)(K:AV->List Row->Prop):Prop:=
 Bi (FC P e) λz=>K (.ptr st.length 0 0 0) (st++[⟨0,e,z.length,[z]⟩])
def QK (e:TypeId)(st:List Row)(v:AV)(K:AV->List Row->Prop):Prop:=
 Bi (EZ v) λcs=>cs≠[]/\K (.ptr st.length 0 0 0) (st++[⟨0,e,cs.length,[cs]⟩])
def Ld (P:Program)(st:List Row)(t:TypeId)(p v:AV)(K:List Row->Prop):Prop:=
 Bi (CE P t) λti=>match p with
  | .ptr id g i off=>Bi st[id]? λrow=>row.gen=g/\Bi row.xs[i]? λx=>Bi (EZ v) λcs=>
    cs.length=ti.2/\off+cs.length<=row.size/\K (st.set id { row with xs:=row.xs.set i (Cn x off cs) })
  | _=>False
def Mi (P:Program)(st:List Row)(t:TypeId)(l c:AV)(K:AV->List Row->Prop):Prop:=
 Bi (CJ P t) λei=>match l,c with
  | .int _ n,.int _ m=>n=m/\0<=n/\n*(ei.bytes:Int)<=281474976710656/\n<=9223372036854775807/\K (.own st.length 0 n.toNat) (st++[⟨0,ei.e,ei.size,List.replicate n.toNat ei.zero⟩])
  | _,_=>False
def Lg (st:List Row)(x:AV)(K:List (List AV)->Prop):Prop:=
 match x with
 | .sl ys=>K ys
 | .zc=>K []
 | .own id g n=>Bi st[id]? λrow=>row.gen=g/\(∀y∈row.xs,∀c∈y,c.leaf=true)/\n=row.xs.length/\K (row.xs.take n)
 | _=>False
def JQ (P:Program)(st:List Row)(t:TypeId)(d x:AV)(K:AV->List Row->Prop):Prop:=
 Bi (CJ P t) λei=>Lg st x λys=>(∀y∈ys,y.length=ei.size)/\match d with
  | .zc=>ys.length*ei.bytes<=140737488355328/\ys.length<=9223372036854775807/\K (.own st.length 0 ys.length) (st++[⟨0,ei.e,ei.size,ys⟩])
  | .own id g n=>Bi st[id]? λrow=>row.gen=g/\n=row.xs.length/\row.elem=ei.e/\row.size=ei.size/\(n+ys.length)*ei.bytes<=140737488355328/\n+ys.length<=9223372036854775807/\
    K (.own id (g+1) (n+ys.length)) (st.set id { row with gen:=g+1,xs:=row.xs.take n++ys })
  | _=>False
variable {P : Program} {F : Nat -> Prop} {os : List Own} {s : St} {a : Act} {w : World} {k : Nat}
def CU (P:Program)(k:Nat)(F:Nat->Prop)(os:List Own)(s:St)(a:Act)(w:World)(WS:Sem Value)(K:AV->List Row->Prop):Prop:=
 ∃v st' u w' os',K v st'/\WS.run P w=.ok u w'/\Rel F os' { s with st:=st' } a w'/\AF F w' os' v u/\Ext F os w F os' w' k
theorem Rel.len (hr:Rel F os s a w):s.st.length=os.length:=by rw[<- hr.st];simp
theorem MR (hr:Rel F os s a w){w':World}{o:Own}(hb:o.BV=some w.heap.size)(hx:0<o.row.xs.length)(hg:o.row.gen=0):AF F w' (os++[o]) (.ptr s.st.length 0 0 0) (.pointer (some ⟨w.heap.size,0,none⟩)):=by
 simp only[AF];exact⟨o,by rw[hr.len];simp,by omega,⟨_,rfl⟩,λ_=>⟨hx,R5 _,_,hb,by simp⟩⟩
theorem GI {v:AV}{u:Value}{cs:List AV}(h:EZ v=some cs)(hv:AF F w os v u):Ad F w os cs u.cells.toList/\(∀c∈cs,c.leaf=true):=by
 cases v with
 | agg xs=>
  simp only[EZ]at h;split at h<;>simp only[Rn,reduceCtorEq]at h;subst h;rename_i hl;simp only[AF]at hv;obtain⟨us,rfl,hus⟩:=hv;exact⟨by simpa [Value.cells] using hus,λc hc=>Ru.1 hl c hc⟩
 | _=>
  simp only[EZ]at h;split at h<;>simp only[Rn,reduceCtorEq]at h;subst h;rename_i hl;refine⟨?_,by simpa using hl⟩;have h1:=Fb hl hv;have:u.cells.toList=[u]:=by cases u<;>simp_all [Value.cells,Value.oneCell']
  rw[this];simp only[Ad];exact⟨u,[],rfl,hv,rfl⟩
theorem I7 (hr:Rel F os s a w){e:TypeId}{v:Value}{cs:List AV}(hl:Ad F w os cs v.cells.toList)(UT :∀c∈cs,c.leaf=true)(UW:cs≠[]){K:AV->List Row->Prop}
  (hk:K (.ptr s.st.length 0 0 0) (s.st++[⟨0,e,cs.length,[cs]⟩])):CU P k F os s a w (do pure (.pointer (some (← newVar e v)))) K:=by
 have hlen:=Aa hl;simp only[Sy]at hlen;have Ue:0<cs.length:=List.length_pos_iff.2 UW;have:=hr.Iu (k:=k) (.inl rfl) (cur:=v.cells) (e:=e) (size:=cs.length) (cap:=1) (xs:=[cs]) Ue (by simpa using UT) (by simpa using hlen) (by simp) (by simp[maxLen]) (λi x hx j c hc=>by
  cases i with
  | zero=>
   simp only[R2,Rn]at hx;subst hx;obtain⟨u,h1,h2⟩:=Aj hl j c hc;exact⟨u,by simpa using h1,h2⟩
  | succ i=>simp at hx)
 refine⟨_,_,.pointer (some ⟨w.heap.size,0,none⟩),_,_,hk,?_,this.1,MR hr rfl (by simp) rfl,this.2.1⟩;simp[newVar,newRow]
theorem Oa {e:TypeId}{v:AV}{u:Value}{K:AV->List Row->Prop}(hr:Rel F os s a w)(h:QK e s.st v K)(hv:AF F w os v u):CU P k F os s a w (Instr.box e u) K:=by
 obtain⟨cs,WJ,UW,hk⟩:=AU h;obtain⟨h1,h2⟩:=GI WJ hv;exact I7 hr h1 h2 UW hk
theorem IY {e:TypeId}{z:List AV}(h:FC P e=some z):∃i v,P.info? e=some i/\i.zero=some v/\z=v.cells.toList.map E4/\(∀c∈z,c.leaf=true)/\z≠[]:=by
 unfold FC at h;split at h<;>try (cases h;done)
 rename_i i hi;split at h<;>try (cases h;done)
 rename_i v hv;split at h<;>try (cases h;done)
 rename_i hc;simp only[SL,TU,Array.isEmpty_eq_false_iff]at hc;simp only[Rn]at h;subst h;refine⟨i,v,hi,hv,rfl,λc hm=>Ru.1 hc.1 c hm,?_⟩;simpa using hc.2
theorem Mp {e:TypeId}{K:AV->List Row->Prop}(hr:Rel F os s a w)(h:Ni P e s.st K):CU P k F os s a w (Instr.alloc e true (.tuple #[])) K:=by
 obtain⟨z,hz,hk⟩:=AU h;obtain⟨i,v,hi,hv,rfl,hl,UW⟩:=IY hz;obtain⟨x,st',u,w',os',h1,h2,h3⟩:=I7 (P:=P) (k:=k) (v:=v) hr (Fm F w os _) hl UW hk;refine⟨x,st',u,w',os',h1,?_,h3⟩;have gU:(zeroValue e).run P w=.ok v w:=by simp[zeroValue,typeInfo,hi,hv]
 simpa [Instr.alloc,gU] using h2
theorem Jk {x cs:List AV}{off n:Nat}(hx:x.length=n)(h:off+cs.length<=n):(Cn x off cs).length=n:=by
 simp[Cn];omega
theorem GG (x cs:List AV)(off j:Nat)(aW:off<=x.length):(Cn x off cs)[j]?=if j<off then x[j]? else if j<off+cs.length then cs[j-off]? else x[j]?:=by
 unfold Cn;by_cases h1:j<off
 ·rw[Ry h1,TF,Rt (by simp;omega),R6,Ry h1]
 ·rw[Rx h1];by_cases h2:j<off+cs.length
  ·rw[Ry h2,Rt (by simp;omega),Rv (by simp;omega)];simp[Nat.min_eq_left aW]
  ·rw[Rx h2,Rv (by simp;omega),SS];congr 1;simp[Nat.min_eq_left aW];omega
theorem EI {cur:Array Value}{us:List Value}{p j:Nat}(h:p+us.length<=cur.size):
  ((cur.toList.take p++us++cur.toList.drop (p+us.length)).toArray)[j]?=if j<p then cur[j]? else if j<p+us.length then us[j-p]? else cur[j]?:=by
 simp only[List.getElem?_toArray];by_cases h1:j<p
 ·rw[Ry h1,TF,Rt (by simp;omega),R6,Ry h1];simp
 ·rw[Rx h1];by_cases h2:j<p+us.length
  ·rw[Ry h2,Rt (by simp;omega),Rv (by simp;omega)];congr 1;simp;omega
  ·rw[Rx h2,Rv (by simp;omega),SS];simp only[SP,TJ,Sy,TE];congr 1;omega
theorem NO {t:TypeId}{p v:AV}{up uv:Value}{K:List Row->Prop}(hr:Rel F os s a w)(h:Ld P s.st t p v K)(hp:AF F w os p up)(hv:AF F w os v uv):
  ∃st' w' os',K st'/\(Instr.storeAt t up uv).run P w=.ok () w'/\Rel F os' { s with st:=st' } a w'/\Ext F os w F os' w' k:=by
 obtain⟨ti,ht,h⟩:=AU h;obtain⟨d,inf,hud,hi,_,e2⟩:=GL ht;cases p with
 | ptr id g i off=>
  obtain⟨row,T0,hg,h0⟩:=AU h;obtain⟨x,hx,h1⟩:=AU h0;obtain⟨cs,WJ,hlen,WV,hk⟩:=AU h1;obtain⟨o,ho,rfl⟩:=hr.row T0;simp only[AF]at hp;obtain⟨o',UU,Wu,_,hp⟩:=hp;rw[ho]at UU;cases UU;obtain⟨_,_,b,hb,rfl⟩:=hp hg;obtain⟨ZU,UT⟩:=GI WJ hv;have T2:=hr.rows id o ho;obtain⟨YY,cur,T7,UX,hle,VO,T6⟩:=T2.some b hb;have Wv:i<o.row.xs.length:=(Rm.1 hx).1;have Vk:=Aa ZU;have gV:=(T2.lens x (Rk hx)).1;have hbound:i*o.row.size+off+uv.cells.toList.length<=cur.size:=by
   rw[Vk,UX];have:(i+1)*o.row.size<=o.cap*o.row.size:=SN _ (by omega);rw[SM]at this;omega
  have Yi:∀u∈uv.cells.toList,u.oneCell'=true:=λu hu=>by
   obtain⟨j,hj⟩:=R0.1 hu;have Vl:j<cs.length:=by rw[<- Vk];exact (Rm.1 hj).1
   obtain⟨u',VC,VL⟩:=Aj ZU j cs[j] (Rp Vl);rw[hj]at VC;cases VC;exact Fb (UT _ (S3 Vl)) VL
  have T8:=run_storeCells_at P b (i*o.row.size+off) o.row.elem uv.cells.toList 0 cur w T7 (by simpa using hbound) Yi;simp only[Nat.add_zero]at T8;have U1:=hr.GS (k:=k) (o':={ o with row:={ o.row with xs:=o.row.xs.set i (Cn x off cs) } }) ho (w':=w.setRow b (cur.toList.take (i*o.row.size+off)++uv.cells.toList++cur.toList.drop (i*o.row.size+off+uv.cells.toList.length)).toArray)
   (by rw[hb];exact Dx.setRow _ _ _) (Rz _) rfl (λ_=>⟨rfl,rfl,by simp⟩) (λg hg=>.inl hg) (λT4=>by
    have aX:Dn (w.setRow b (cur.toList.take (i*o.row.size+off)++uv.cells.toList++cur.toList.drop (i*o.row.size+off+uv.cells.toList.length)).toArray) { o with row:={ o.row with xs:=o.row.xs.set i (Cn x off cs) } }:=by
     obtain⟨-,D,d1,d2,d3⟩:=T2.deep;refine⟨λ_ _ _ _ hn=>(by rw[show o.BV=_ from hb]at hn;cases hn),D,d1,d2,λb' UO Ww el l UZ i' y j e s' ys hy hc=>?_⟩;simp only at UO hy⊢;rw[hb]at UO;cases UO;rw[setRow_heap w b cur _ _ _ T7]at UZ;cases UZ;have hold:∃y0,o.row.xs[i']?=some y0/\y0[j]?=some (.dv e s' ys)/\(i'≠i∨j<off∨off+cs.length<=j):=by
      by_cases X1:i'=i
      ·subst X1;rw[Rs Wv,Rn]at hy;subst hy;rw[GG _ _ _ _ (by omega)]at hc;by_cases Wx:j<off
       ·rw[Ry Wx]at hc;exact⟨x,hx,hc,.inr (.inl Wx)⟩
       ·rw[Rx Wx]at hc;by_cases XH:j<off+cs.length
        ·rw[Ry XH]at hc;have:=UT _ (Rk hc);simp[AV.leaf]at this
        ·rw[Rx XH]at hc;exact⟨x,hx,hc,.inr (.inr (by omega))⟩
      ·rw[Rw (SY X1)]at hy;exact⟨y,hy,hc,.inl X1⟩
     obtain⟨y0,Y5,U3,UW⟩:=hold;obtain⟨u,q1,q2⟩:=d3 b hb cur _ _ T7 i' y0 j e s' ys Y5 U3;have Vl:j<o.row.size:=by rw[<- (T2.lens y0 (Rk Y5)).1];exact (Rm.1 U3).1
     refine⟨u,?_,Et (λ_ h=>h) (λc U2=>setRow_other w b c _ λe=>?_) _ u q2⟩
     ·rw[EI hbound,Vk];rcases SW i' i with T9|X1|hgt
      ·have:(i'+1)*o.row.size<=i*o.row.size:=SN _ T9;rw[SM]at this;rw[Ry (by omega)];exact q1
      ·subst X1;rcases UW with UW|UW|UW
       ·exact absurd rfl UW
       ·rw[Ry (by omega)];exact q1
       ·rw[Rx (by omega),Rx (by omega)];exact q1
      ·have:(i+1)*o.row.size<=i'*o.row.size:=SN _ hgt;rw[SM]at this;rw[Rx (by omega),Rx (by omega)];exact q1
     ·subst e;exact (T2.mo _ (d1 _ _ _ U2)).2.2 hb
    refine⟨T2.pos,λy hy=>?_,(λhn=>by rw[hb]at hn;cases hn),λb' UO=>?_,λg hg=>⟨(T2.mo g hg).1,by simpa using (T2.mo g hg).2.1,(T2.mo g hg).2.2⟩,aX⟩
    ·rcases SO hy with hy|rfl
     ·exact T2.lens y hy
     ·refine⟨Jk gV (by simpa using WV),λc hc=>?_⟩;unfold Cn at hc;simp only[SI]at hc;rcases hc with (hc|hc)|hc
      ·exact (T2.lens x (Rk hx)).2 c (SV hc)
      ·exact Bd (UT c hc)
      ·exact (T2.lens x (Rk hx)).2 c (Sa hc)
    ·rw[hb]at UO;cases UO;refine⟨YY,_,setRow_heap w b cur _ _ _ T7,?_,by simpa using hle,VO,λi' y hy j c hc=>?_⟩
     ·simp only[Tl,SP,TJ,Tt,Sy] at *;omega
     ·simp only at hy⊢;rw[EI hbound];by_cases X1:i'=i
      ·subst X1;rw[Rs Wv,Rn]at hy;subst hy;rw[GG _ _ _ _ (by omega)]at hc;by_cases Wx:j<off
       ·rw[Ry Wx]at hc;obtain⟨u,h1,h2⟩:=T6 _ _ hx j c hc;exact⟨u,by rw[Ry (by omega)];exact h1,T4 _ _ h2⟩
       ·rw[Rx Wx]at hc;by_cases XH:j<off+cs.length
        ·rw[Ry XH]at hc;obtain⟨u,h1,h2⟩:=Aj ZU _ _ hc;refine⟨u,?_,T4 _ _ h2⟩;rw[Rx (by omega),Ry (by rw[Vk];omega),<- h1];congr 1;omega
        ·rw[Rx XH]at hc;obtain⟨u,h1,h2⟩:=T6 _ _ hx j c hc;exact⟨u,by rw[Rx (by omega),Rx (by rw[Vk];omega)];exact h1,T4 _ _ h2⟩
      ·rw[Rw (SY X1)]at hy;obtain⟨u,h1,h2⟩:=T6 _ _ hy j c hc;have Vl:j<o.row.size:=by rw[<- (T2.lens y (Rk hy)).1];exact (Rm.1 hc).1
       refine⟨u,?_,T4 _ _ h2⟩;rcases Nat.lt_or_gt_of_ne X1 with T9|hgt
       ·have:(i'+1)*o.row.size<=i*o.row.size:=SN _ T9;rw[SM]at this;rw[Ry (by omega)];exact h1
       ·have:(i+1)*o.row.size<=i'*o.row.size:=SN _ hgt;rw[SM]at this;rw[Rx (by omega),Rx (by rw[Vk];omega)];exact h1)
  refine⟨_,_,_,hk,?_,U1.1,U1.2.1⟩;have cU:(sizeOf t).run P w=.ok ti.2 w:=by simp[sizeOf,typeInfo,hi,e2]
  have:uv.cells.size=ti.2:=by rw[<- hlen,<- Vk];simp
  simp[Instr.storeAt,Instr.sureAddr,storeVar,cU,this,T8]
 | _=>exact h.elim
theorem N2 {t:TypeId}{l c:AV}{ul uc:Value}{K:AV->List Row->Prop}(hr:Rel F os s a w)(h:Mi P s.st t l c K)(hl:AF F w os l ul)(hc:AF F w os c uc):CU P k F os s a w (Instr.makeSlice t ul uc) K:=by
 obtain⟨ei,he,h⟩:=AU h;obtain⟨inf,z,hu,hi,hz,XS,Ue,UX,hby,hzero,hzl⟩:=EJ he;cases l with
 | int kl n=>
  cases c with
  | int kc m=>
   obtain⟨rfl,h0,hb,hm,hk⟩:=h;simp only[AF]at hl hc;subst hl;subst hc;obtain⟨N,rfl⟩:=TA h0;simp only[Su]at hk;have UM:=run_make (P:=P) w t ei.e inf z hu hi hz kl kc N N (by omega) (Int.le_refl _) (by rw[<- hby,Int.mul_comm];omega) (by omega);simp only[Su]at UM;have aY:ei.zero.length=ei.size:=by rw[hzero,UX,<- XS];simp
   have:=hr.Iu (k:=k) (.inl rfl) (cur:=madeCells z.cells (N*inf.size)) (e:=ei.e) (size:=ei.size) (cap:=N) (xs:=List.replicate N ei.zero) (by omega)
    (λx hx=>by rw[List.mem_replicate]at hx;rw[hx.2];exact⟨aY,hzl⟩) (by rw[size_madeCells,UX]) (by simp) (by simp[maxLen];omega) (λi x hx j c hc=>by
     rw[List.getElem?_replicate]at hx;split at hx<;>simp only[Rn,reduceCtorEq]at hx;subst hx;rename_i cV;have Vl:j<ei.size:=by rw[<- aY];exact (Rm.1 hc).1
     have XH:j<z.cells.size:=by omega
     refine⟨z.cells[j],?_,?_⟩
     ·have T9:i*ei.size+j<N*inf.size:=by
       have:(i+1)*ei.size<=N*ei.size:=SN _ cV;rw[SM]at this;rw[<- UX];omega
      have XT:(i*ei.size+j) % z.cells.size=j:=by rw[XS,<- UX,Nat.mul_comm,Nat.mul_add_mod];exact Nat.mod_eq_of_lt Vl
      simp[madeCells,T9,XT,XH]
     ·rw[hzero]at hc;simp only[Ro,TE,Sg XH,SC,Rn]at hc;subst hc;exact Ff F w os _)
   refine⟨_,_,_,_,_,hk,UM,this.1,?_,this.2.1⟩;simp only[AF];refine⟨⟨⟨0,ei.e,ei.size,List.replicate N ei.zero⟩,some w.heap.size,N,Cg⟩,by rw[hr.len];simp,by simp,⟨_,_,_,rfl⟩,λ_=>⟨by simp,.inr ⟨_,rfl,by simp⟩⟩⟩
  | _=>exact h.elim
 | _=>cases c<;>exact h.elim
structure Src (F:Nat->Prop) (w:World) (os:List Own) (u:Value) (ys:List (List AV)) (size:Nat):Prop where
 shape :∃ad c,u=.slice ad ys.length c/\(ys=[]∨∃b o,ad=some ⟨b,o,none⟩/\∀(i:Nat) y,ys[i]?=some y->FJ F w os b (o+i*size) y)
theorem My {x:AV}{u:Value}{size:Nat}{K:List (List AV)->Prop}(hr:Rel F os s a w)(h:Lg s.st x λys=>(∀y∈ys,y.length=size)/\K ys)(hx:AF F w os x u):∃ys,K ys/\(∀y∈ys,y.length=size)/\(ys=[]∨∀y∈ys,∀c∈y,c.leaf=true)/\Src F w os u ys size:=by
 cases x with
 | sl ys=>
  obtain⟨UX,hk⟩:=h;simp only[AF]at hx;obtain⟨ad,cap,rfl,_,UW⟩:=hx;by_cases he:ys=[]
  ·exact⟨ys,hk,UX,.inl he,⟨ad,cap,rfl,.inl he⟩⟩
  ·obtain⟨b,o,sz,rfl,hb,hss,Us⟩:=UW he;refine⟨ys,hk,UX,.inr λy hy c hc=>?_,⟨_,cap,rfl,?_⟩⟩
   ·obtain⟨i,hi⟩:=R0.1 hy;obtain⟨j,hj⟩:=R0.1 hc;obtain⟨_,_,h2,_⟩:=FD (Dp hss Us i y hi) j c hj;exact h2
   have:sz=size:=by
    obtain⟨y,hy⟩:=List.exists_mem_of_ne_nil ys he;rw[<- hss y hy,UX y hy]
   subst this;exact .inr ⟨b,o,rfl,λi y hy=>G3 (Dp hss Us i y hy)⟩
 | zc=>
  obtain⟨UX,hk⟩:=h;simp only[AF]at hx;obtain⟨ad,rfl⟩:=hx;exact⟨[],hk,by simp,.inl rfl,⟨ad,0,rfl,.inl rfl⟩⟩
 | own id g n=>
  obtain⟨row,T0,hg,Xq,hnw,UX,hk⟩:=AU h;obtain⟨o,ho,rfl⟩:=hr.row T0;simp only[AF]at hx;obtain⟨o',UU,Wu,_,hx⟩:=hx;rw[ho]at UU;cases UU;obtain⟨hle,hx⟩:=hx hg;simp only[Eb hnw]at hx;refine⟨_,hk,UX,.inr (λy hy=>Xq y (SV hy)),?_⟩;have hlen:(o.row.xs.take n).length=n:=by simp;omega
  rcases hx with ⟨hb,VY,ad,rfl⟩|⟨b,hb,rfl⟩
  ·have:=((hr.rows id o ho).nil hb VY).1;exact⟨ad,0,by rw[hlen],.inl (by rw[this];simp)⟩
  ·refine⟨_,o.cap,by rw[hlen],.inr ⟨b,0,rfl,λi y hy=>?_⟩⟩;have Y5:=hy;rw[R6]at hy;split at hy
   ·have h1:=hr.IP ho hb hy;have:o.row.size=size:=by
     rw[<- UX y (Rk Y5)];exact (((hr.rows id o ho).lens y (Rk hy)).1).symm
    rw[this]at h1;simpa using h1
   ·cases hy
 | _=>exact h.elim
theorem KM {b o size:Nat}{ys:List (List AV)}(UX :∀y∈ys,y.length=size)(h :∀(i:Nat) y,ys[i]?=some y->FJ F w os b (o+i*size) y):
  ∃us:List Value,us.length=ys.length*size/\(∀(j:Nat) u,us[j]?=some u->w.cell? ((⟨b,o,none⟩:Addr).add j)=some u)/\(∀u∈us,u.oneCell'=true)/\
   ∀(i:Nat) y,ys[i]?=some y->∀(j:Nat) c,y[j]?=some c->∃u,us[i*size+j]?=some u/\c.kept=true/\AF F w os c u:=by
 have fI:∀j,j<ys.length*size->∃i y c,j=i*size+j % size/\ys[i]?=some y/\y[j % size]?=some c:=λj hj=>by
  have Ue:0<size:=Nat.pos_of_ne_zero (by rintro rfl;simp at hj);have hi:j / size<ys.length:=by rw[Nat.div_lt_iff_lt_mul Ue];exact hj
  have gX:j % size<(ys[j / size]).length:=by rw[UX _ (S3 hi)];exact Nat.mod_lt _ Ue
  exact⟨j / size,ys[j / size],(ys[j / size])[j % size],by rw[Nat.mul_comm];exact (Nat.div_add_mod j size).symm,Rp hi,Rp gX⟩
 refine⟨(List.range (ys.length*size)).map λj=>(w.cell? ((⟨b,o,none⟩:Addr).add j)).getD undef,by simp,λj u hu=>?_,λu hu=>?_,λi y hy j c hc=>?_⟩
 ·have hj:j<ys.length*size:=by have:=(Rm.1 hu).1;simpa using this
  simp only[Ro,TN hj,SC,Rn]at hu;obtain⟨i,y,c,he,hy,hc⟩:=fI j hj;obtain⟨u',h1,_⟩:=h i y hy _ c hc;rw[Bp,he,<- S8]at hu⊢;rw[h1]at hu⊢;simp only[Sp]at hu;rw[hu]
 ·obtain⟨j,hj,rfl⟩:=R7.1 hu;rw[TX]at hj;obtain⟨i,y,c,he,hy,hc⟩:=fI j hj;obtain⟨u',h1,h2,h3⟩:=h i y hy _ c hc;rw[Bp,he,<- S8,h1];exact J5 h2 h3
 ·have hi:=(Rm.1 hy).1;have Vl:j<size:=by rw[<- UX y (Rk hy)];exact (Rm.1 hc).1
  obtain⟨u,h1,h2,h3⟩:=h i y hy j c hc;have T9:i*size+j<ys.length*size:=by
   have:(i+1)*size<=ys.length*size:=SN _ hi;rw[SM]at this;omega
  refine⟨u,?_,h2,h3⟩;simp only[Ro,TN T9,SC,Bp,<- S8,h1,Sp]
end Go.Abs
