import Derived.Test.YtfkncfjpobjbjaaAbsD
set_option linter.all false
namespace Go.Abs
open Go
def Ed (v:AV):Option (List AV):=
 match v with
 | .agg cs=>if cs.all AV.leaf then some cs else none
 | v=>if v.leaf then some [v] else none
def FG (P:Program)(e:TypeId):Option (List AV):=
 match P.info? e with
 | some i=>match i.zero with
  | some z=>if (z.cells.toList.map E9).all AV.leaf&&!z.cells.isEmpty then some (z.cells.toList.map E9) else none
  | none=>none
 | none=>none
def Cr (x:List AV)(off:Nat)(cs:List AV):List AV:=x.take off++cs++x.drop (off+cs.length)
def Nt (P:Program)(e:TypeId)(st:List Row)(K:AV->List Row->Prop):Prop:=
 Bk (FG P e) λz=>K (.ptr st.length 0 0 0) (st++[⟨0,e,z.length,[z]⟩])
def QS (e:TypeId)(st:List Row)(v:AV)(K:AV->List Row->Prop):Prop:=
 Bk (Ed v) λcs=>cs≠[]/\K (.ptr st.length 0 0 0) (st++[⟨0,e,cs.length,[cs]⟩])
def LI (P:Program)(st:List Row)(t:TypeId)(p v:AV)(K:List Row->Prop):Prop:=
 Bk (CI P t) λti=>match p with
  | .ptr id g i off=>Bk st[id]? λrow=>row.gen=g/\Bk row.xs[i]? λx=>Bk (Ed v) λcs=>
    cs.length=ti.2/\off+cs.length<=row.size/\K (st.set id { row with xs:=row.xs.set i (Cr x off cs) })
  | _=>False
def NN (P:Program)(st:List Row)(t:TypeId)(l c:AV)(K:AV->List Row->Prop):Prop:=
 Bk (CG P t) λei=>match l,c with
  | .int _ n,.int _ m=>n=m/\0<=n/\n*(ei.bytes:Int)<=281474976710656/\n<=9223372036854775807/\K (.own st.length 0 n.toNat) (st++[⟨0,ei.e,ei.size,List.replicate n.toNat ei.zero⟩])
  | _,_=>False
def Lr (st:List Row)(x:AV)(K:List (List AV)->Prop):Prop:=
 match x with
 | .sl ys=>K ys
 | .zc=>K []
 | .own id g n=>Bk st[id]? λrow=>row.gen=g/\(∀y∈row.xs,∀c∈y,c.leaf=true)/\n=row.xs.length/\K (row.xs.take n)
 | _=>False
def Je (P:Program)(st:List Row)(t:TypeId)(d x:AV)(K:AV->List Row->Prop):Prop:=
 Bk (CG P t) λei=>Lr st x λys=>(∀y∈ys,y.length=ei.size)/\match d with
  | .zc=>ys.length*ei.bytes<=140737488355328/\ys.length<=9223372036854775807/\K (.own st.length 0 ys.length) (st++[⟨0,ei.e,ei.size,ys⟩])
  | .own id g n=>Bk st[id]? λrow=>row.gen=g/\n=row.xs.length/\row.elem=ei.e/\row.size=ei.size/\(n+ys.length)*ei.bytes<=140737488355328/\n+ys.length<=9223372036854775807/\
    K (.own id (g+1) (n+ys.length)) (st.set id { row with gen:=g+1,xs:=row.xs.take n++ys })
  | _=>False
variable {P : Program} {F : Nat -> Prop} {os : List Own} {s : St} {a : Act} {w : World} {k : Nat}
def CU (P:Program)(k:Nat)(F:Nat->Prop)(os:List Own)(s:St)(a:Act)(w:World)(Wc:Sem Value)(K:AV->List Row->Prop):Prop:=
 ∃v st' u w' os',K v st'/\Wc.run P w=.ok u w'/\Rel F os' { s with st:=st' } a w'/\AF F w' os' v u/\Ext F os w F os' w' k
theorem Rel.len (hr:Rel F os s a w):s.st.length=os.length:=by rw[<- hr.st];simp
theorem MM (hr:Rel F os s a w){w':World}{o:Own}(hb:o.BW=some w.heap.size)(hx:0<o.row.xs.length)(hg:o.row.gen=0):AF F w' (os++[o]) (.ptr s.st.length 0 0 0) (.pointer (some ⟨w.heap.size,0,none⟩)):=by
 simp only[AF];exact⟨o,by rw[hr.len];simp,by omega,⟨_,rfl⟩,λ_=>⟨hx,SA _,_,hb,by simp⟩⟩
theorem GL {v:AV}{u:Value}{cs:List AV}(h:Ed v=some cs)(hv:AF F w os v u):Ad F w os cs u.cells.toList/\(∀c∈cs,c.leaf=true):=by
 cases v with
 | agg xs=>
  simp only[Ed]at h;split at h<;>simp only[Rr,reduceCtorEq]at h;subst h;rename_i hl;simp only[AF]at hv;obtain⟨us,rfl,hus⟩:=hv;exact⟨by simpa [Value.cells] using hus,λc hc=>Ry.1 hl c hc⟩
 | _=>
  simp only[Ed]at h;split at h<;>simp only[Rr,reduceCtorEq]at h;subst h;rename_i hl;refine⟨?_,by simpa using hl⟩;have h1:=Fx hl hv;have:u.cells.toList=[u]:=by cases u<;>simp_all [Value.cells,Value.oneCell']
  rw[this];simp only[Ad];exact⟨u,[],rfl,hv,rfl⟩
theorem JU (hr:Rel F os s a w){e:TypeId}{v:Value}{cs:List AV}(hl:Ad F w os cs v.cells.toList)(UY :∀c∈cs,c.leaf=true)(Ua:cs≠[]){K:AV->List Row->Prop}
  (hk:K (.ptr s.st.length 0 0 0) (s.st++[⟨0,e,cs.length,[cs]⟩])):CU P k F os s a w (do pure (.pointer (some (← newVar e v)))) K:=by
 have hlen:=Ab hl;simp only[S5]at hlen;have Ui:0<cs.length:=List.length_pos_iff.2 Ua;have:=hr.I4 (k:=k) (.inl rfl) (cur:=v.cells) (e:=e) (size:=cs.length) (cap:=1) (xs:=[cs]) Ui (by simpa using UY) (by simpa using hlen) (by simp) (by simp[maxLen]) (λi x hx j c hc=>by
  cases i with
  | zero=>
   simp only[R6,Rr]at hx;subst hx;obtain⟨u,h1,h2⟩:=Al hl j c hc;exact⟨u,by simpa using h1,h2⟩
  | succ i=>simp at hx)
 refine⟨_,_,.pointer (some ⟨w.heap.size,0,none⟩),_,_,hk,?_,this.1,MM hr rfl (by simp) rfl,this.2.1⟩;simp[newVar,newRow]
theorem PQ {e:TypeId}{v:AV}{u:Value}{K:AV->List Row->Prop}(hr:Rel F os s a w)(h:QS e s.st v K)(hv:AF F w os v u):CU P k F os s a w (Instr.box e u) K:=by
 obtain⟨cs,WN,Ua,hk⟩:=AU h;obtain⟨h1,h2⟩:=GL WN hv;exact JU hr h1 h2 Ua hk
theorem Ii {e:TypeId}{z:List AV}(h:FG P e=some z):∃i v,P.info? e=some i/\i.zero=some v/\z=v.cells.toList.map E9/\(∀c∈z,c.leaf=true)/\z≠[]:=by
 unfold FG at h;split at h<;>try (cases h;done)
 rename_i i hi;split at h<;>try (cases h;done)
 rename_i v hv;split at h<;>try (cases h;done)
 rename_i hc;simp only[SP,TY,Array.isEmpty_eq_false_iff]at hc;simp only[Rr]at h;subst h;refine⟨i,v,hi,hv,rfl,λc hm=>Ry.1 hc.1 c hm,?_⟩;simpa using hc.2
theorem NA {e:TypeId}{K:AV->List Row->Prop}(hr:Rel F os s a w)(h:Nt P e s.st K):CU P k F os s a w (Instr.alloc e true (.tuple #[])) K:=by
 obtain⟨z,hz,hk⟩:=AU h;obtain⟨i,v,hi,hv,rfl,hl,Ua⟩:=Ii hz;obtain⟨x,st',u,w',os',h1,h2,h3⟩:=JU (P:=P) (k:=k) (v:=v) hr (Fg F w os _) hl Ua hk;refine⟨x,st',u,w',os',h1,?_,h3⟩;have gi:(zeroValue e).run P w=.ok v w:=by simp[zeroValue,typeInfo,hi,hv]
 simpa [Instr.alloc,gi] using h2
theorem JV {x cs:List AV}{off n:Nat}(hx:x.length=n)(h:off+cs.length<=n):(Cr x off cs).length=n:=by
 simp[Cr];omega
theorem GV (x cs:List AV)(off j:Nat)(ab:off<=x.length):(Cr x off cs)[j]?=if j<off then x[j]? else if j<off+cs.length then cs[j-off]? else x[j]?:=by
 unfold Cr;by_cases h1:j<off
 ·rw[R1 h1,TJ,Rx (by simp;omega),SB,R1 h1]
 ·rw[R0 h1];by_cases h2:j<off+cs.length
  ·rw[R1 h2,Rx (by simp;omega),Rz (by simp;omega)];simp[Nat.min_eq_left ab]
  ·rw[R0 h2,Rz (by simp;omega),SX];congr 1;simp[Nat.min_eq_left ab];omega
theorem EN {cur:Array Value}{us:List Value}{p j:Nat}(h:p+us.length<=cur.size):
  ((cur.toList.take p++us++cur.toList.drop (p+us.length)).toArray)[j]?=if j<p then cur[j]? else if j<p+us.length then us[j-p]? else cur[j]?:=by
 simp only[List.getElem?_toArray];by_cases h1:j<p
 ·rw[R1 h1,TJ,Rx (by simp;omega),SB,R1 h1];simp
 ·rw[R0 h1];by_cases h2:j<p+us.length
  ·rw[R1 h2,Rx (by simp;omega),Rz (by simp;omega)];congr 1;simp;omega
  ·rw[R0 h2,Rz (by simp;omega),SX];simp only[SV,TN,S5,TI];congr 1;omega
theorem NL {t:TypeId}{p v:AV}{up uv:Value}{K:List Row->Prop}(hr:Rel F os s a w)(h:LI P s.st t p v K)(hp:AF F w os p up)(hv:AF F w os v uv):
  ∃st' w' os',K st'/\(Instr.storeAt t up uv).run P w=.ok () w'/\Rel F os' { s with st:=st' } a w'/\Ext F os w F os' w' k:=by
 obtain⟨ti,ht,h⟩:=AU h;obtain⟨d,inf,hud,hi,_,e2⟩:=GX ht;cases p with
 | ptr id g i off=>
  obtain⟨row,T4,hg,h0⟩:=AU h;obtain⟨x,hx,h1⟩:=AU h0;obtain⟨cs,WN,hlen,Wf,hk⟩:=AU h1;obtain⟨o,ho,rfl⟩:=hr.row T4;simp only[AF]at hp;obtain⟨o',UZ,W4,_,hp⟩:=hp;rw[ho]at UZ;cases UZ;obtain⟨_,_,b,hb,rfl⟩:=hp hg;obtain⟨ZX,UY⟩:=GL WN hv;have T6:=hr.rows id o ho;obtain⟨Yd,cur,UK,Uc,hle,VV,UJ⟩:=T6.some b hb;have W5:i<o.row.xs.length:=(Rq.1 hx).1;have Vq:=Ab ZX;have gj:=(T6.lens x (Ro hx)).1;have hbound:i*o.row.size+off+uv.cells.toList.length<=cur.size:=by
   rw[Vq,Uc];have:(i+1)*o.row.size<=o.cap*o.row.size:=SS _ (by omega);rw[SQ]at this;omega
  have Yp:∀u∈uv.cells.toList,u.oneCell'=true:=λu hu=>by
   obtain⟨j,hj⟩:=R5.1 hu;have Vr:j<cs.length:=by rw[<- Vq];exact (Rq.1 hj).1
   obtain⟨u',VJ,VS⟩:=Al ZX j cs[j] (Rt Vr);rw[hj]at VJ;cases VJ;exact Fx (UY _ (S7 Vr)) VS
  have UL:=run_storeCells_at P b (i*o.row.size+off) o.row.elem uv.cells.toList 0 cur w UK (by simpa using hbound) Yp;simp only[Nat.add_zero]at UL;have U6:=hr.GR (k:=k) (o':={ o with row:={ o.row with xs:=o.row.xs.set i (Cr x off cs) } }) ho (w':=w.setRow b (cur.toList.take (i*o.row.size+off)++uv.cells.toList++cur.toList.drop (i*o.row.size+off+uv.cells.toList.length)).toArray)
   (by rw[hb];exact Dz.setRow _ _ _) (R3 _) rfl (λ_=>⟨rfl,rfl,by simp⟩) (λg hg=>.inl hg) (λT8=>by
    have ae:D0 (w.setRow b (cur.toList.take (i*o.row.size+off)++uv.cells.toList++cur.toList.drop (i*o.row.size+off+uv.cells.toList.length)).toArray) { o with row:={ o.row with xs:=o.row.xs.set i (Cr x off cs) } }:=by
     obtain⟨-,D,d1,d2,d3⟩:=T6.deep;refine⟨λ_ _ _ _ hn=>(by rw[show o.BW=_ from hb]at hn;cases hn),D,d1,d2,λb' US W6 el l Ue i' y j e s' ys hy hc=>?_⟩;simp only at US hy⊢;rw[hb]at US;cases US;rw[setRow_heap w b cur _ _ _ UK]at Ue;cases Ue;have hold:∃y0,o.row.xs[i']?=some y0/\y0[j]?=some (.dv e s' ys)/\(i'≠i∨j<off∨off+cs.length<=j):=by
      by_cases X6:i'=i
      ·subst X6;rw[Rw W5,Rr]at hy;subst hy;rw[GV _ _ _ _ (by omega)]at hc;by_cases W7:j<off
       ·rw[R1 W7]at hc;exact⟨x,hx,hc,.inr (.inl W7)⟩
       ·rw[R0 W7]at hc;by_cases XM:j<off+cs.length
        ·rw[R1 XM]at hc;have:=UY _ (Ro hc);simp[AV.leaf]at this
        ·rw[R0 XM]at hc;exact⟨x,hx,hc,.inr (.inr (by omega))⟩
      ·rw[R2 (Sc X6)]at hy;exact⟨y,hy,hc,.inl X6⟩
     obtain⟨y0,Y9,VA,Ua⟩:=hold;obtain⟨u,q1,q2⟩:=d3 b hb cur _ _ UK i' y0 j e s' ys Y9 VA;have Vr:j<o.row.size:=by rw[<- (T6.lens y0 (Ro Y9)).1];exact (Rq.1 VA).1
     refine⟨u,?_,Et (λ_ h=>h) (λc U7=>setRow_other w b c _ λe=>?_) _ u q2⟩
     ·rw[EN hbound,Vq];rcases Sb i' i with UM|X6|hgt
      ·have:(i'+1)*o.row.size<=i*o.row.size:=SS _ UM;rw[SQ]at this;rw[R1 (by omega)];exact q1
      ·subst X6;rcases Ua with Ua|Ua|Ua
       ·exact absurd rfl Ua
       ·rw[R1 (by omega)];exact q1
       ·rw[R0 (by omega),R0 (by omega)];exact q1
      ·have:(i+1)*o.row.size<=i'*o.row.size:=SS _ hgt;rw[SQ]at this;rw[R0 (by omega),R0 (by omega)];exact q1
     ·subst e;exact (T6.mo _ (d1 _ _ _ U7)).2.2 hb
    refine⟨T6.pos,λy hy=>?_,(λhn=>by rw[hb]at hn;cases hn),λb' US=>?_,λg hg=>⟨(T6.mo g hg).1,by simpa using (T6.mo g hg).2.1,(T6.mo g hg).2.2⟩,ae⟩
    ·rcases SU hy with hy|rfl
     ·exact T6.lens y hy
     ·refine⟨JV gj (by simpa using Wf),λc hc=>?_⟩;unfold Cr at hc;simp only[SM]at hc;rcases hc with (hc|hc)|hc
      ·exact (T6.lens x (Ro hx)).2 c (SZ hc)
      ·exact Bd (UY c hc)
      ·exact (T6.lens x (Ro hx)).2 c (Se hc)
    ·rw[hb]at US;cases US;refine⟨Yd,_,setRow_heap w b cur _ _ _ UK,?_,by simpa using hle,VV,λi' y hy j c hc=>?_⟩
     ·simp only[Tq,SV,TN,Tx,S5] at *;omega
     ·simp only at hy⊢;rw[EN hbound];by_cases X6:i'=i
      ·subst X6;rw[Rw W5,Rr]at hy;subst hy;rw[GV _ _ _ _ (by omega)]at hc;by_cases W7:j<off
       ·rw[R1 W7]at hc;obtain⟨u,h1,h2⟩:=UJ _ _ hx j c hc;exact⟨u,by rw[R1 (by omega)];exact h1,T8 _ _ h2⟩
       ·rw[R0 W7]at hc;by_cases XM:j<off+cs.length
        ·rw[R1 XM]at hc;obtain⟨u,h1,h2⟩:=Al ZX _ _ hc;refine⟨u,?_,T8 _ _ h2⟩;rw[R0 (by omega),R1 (by rw[Vq];omega),<- h1];congr 1;omega
        ·rw[R0 XM]at hc;obtain⟨u,h1,h2⟩:=UJ _ _ hx j c hc;exact⟨u,by rw[R0 (by omega),R0 (by rw[Vq];omega)];exact h1,T8 _ _ h2⟩
      ·rw[R2 (Sc X6)]at hy;obtain⟨u,h1,h2⟩:=UJ _ _ hy j c hc;have Vr:j<o.row.size:=by rw[<- (T6.lens y (Ro hy)).1];exact (Rq.1 hc).1
       refine⟨u,?_,T8 _ _ h2⟩;rcases Nat.lt_or_gt_of_ne X6 with UM|hgt
       ·have:(i'+1)*o.row.size<=i*o.row.size:=SS _ UM;rw[SQ]at this;rw[R1 (by omega)];exact h1
       ·have:(i+1)*o.row.size<=i'*o.row.size:=SS _ hgt;rw[SQ]at this;rw[R0 (by omega),R0 (by rw[Vq];omega)];exact h1)
  refine⟨_,_,_,hk,?_,U6.1,U6.2.1⟩;have cb:(sizeOf t).run P w=.ok ti.2 w:=by simp[sizeOf,typeInfo,hi,e2]
  have:uv.cells.size=ti.2:=by rw[<- hlen,<- Vq];simp
  simp[Instr.storeAt,Instr.sureAddr,storeVar,cb,this,UL]
 | _=>exact h.elim
theorem OT {t:TypeId}{l c:AV}{ul uc:Value}{K:AV->List Row->Prop}(hr:Rel F os s a w)(h:NN P s.st t l c K)(hl:AF F w os l ul)(hc:AF F w os c uc):CU P k F os s a w (Instr.makeSlice t ul uc) K:=by
 obtain⟨ei,he,h⟩:=AU h;obtain⟨inf,z,hu,hi,hz,XZ,Ui,Uc,hby,hzero,hzl⟩:=EJ he;cases l with
 | int kl n=>
  cases c with
  | int kc m=>
   obtain⟨rfl,h0,hb,hm,hk⟩:=h;simp only[AF]at hl hc;subst hl;subst hc;obtain⟨N,rfl⟩:=TE h0;simp only[S0]at hk;have UR:=run_make (P:=P) w t ei.e inf z hu hi hz kl kc N N (by omega) (Int.le_refl _) (by rw[<- hby,Int.mul_comm];omega) (by omega);simp only[S0]at UR;have af:ei.zero.length=ei.size:=by rw[hzero,Uc,<- XZ];simp
   have:=hr.I4 (k:=k) (.inl rfl) (cur:=madeCells z.cells (N*inf.size)) (e:=ei.e) (size:=ei.size) (cap:=N) (xs:=List.replicate N ei.zero) (by omega)
    (λx hx=>by rw[List.mem_replicate]at hx;rw[hx.2];exact⟨af,hzl⟩) (by rw[size_madeCells,Uc]) (by simp) (by simp[maxLen];omega) (λi x hx j c hc=>by
     rw[List.getElem?_replicate]at hx;split at hx<;>simp only[Rr,reduceCtorEq]at hx;subst hx;rename_i cc;have Vr:j<ei.size:=by rw[<- af];exact (Rq.1 hc).1
     have XM:j<z.cells.size:=by omega
     refine⟨z.cells[j],?_,?_⟩
     ·have UM:i*ei.size+j<N*inf.size:=by
       have:(i+1)*ei.size<=N*ei.size:=SS _ cc;rw[SQ]at this;rw[<- Uc];omega
      have Xa:(i*ei.size+j) % z.cells.size=j:=by rw[XZ,<- Uc,Nat.mul_comm,Nat.mul_add_mod];exact Nat.mod_eq_of_lt Vr
      simp[madeCells,UM,Xa,XM]
     ·rw[hzero]at hc;simp only[Rs,TI,Sl XM,SG,Rr]at hc;subst hc;exact Fy F w os _)
   refine⟨_,_,_,_,_,hk,UR,this.1,?_,this.2.1⟩;simp only[AF];refine⟨⟨⟨0,ei.e,ei.size,List.replicate N ei.zero⟩,some w.heap.size,N,Cl⟩,by rw[hr.len];simp,by simp,⟨_,_,_,rfl⟩,λ_=>⟨by simp,.inr ⟨_,rfl,by simp⟩⟩⟩
  | _=>exact h.elim
 | _=>cases c<;>exact h.elim
structure Src (F:Nat->Prop) (w:World) (os:List Own) (u:Value) (ys:List (List AV)) (size:Nat):Prop where
 shape :∃ad c,u=.slice ad ys.length c/\(ys=[]∨∃b o,ad=some ⟨b,o,none⟩/\∀(i:Nat) y,ys[i]?=some y->FQ F w os b (o+i*size) y)
theorem NQ {x:AV}{u:Value}{size:Nat}{K:List (List AV)->Prop}(hr:Rel F os s a w)(h:Lr s.st x λys=>(∀y∈ys,y.length=size)/\K ys)(hx:AF F w os x u):∃ys,K ys/\(∀y∈ys,y.length=size)/\(ys=[]∨∀y∈ys,∀c∈y,c.leaf=true)/\Src F w os u ys size:=by
 cases x with
 | sl ys=>
  obtain⟨Uc,hk⟩:=h;simp only[AF]at hx;obtain⟨ad,cap,rfl,_,Ua⟩:=hx;by_cases he:ys=[]
  ·exact⟨ys,hk,Uc,.inl he,⟨ad,cap,rfl,.inl he⟩⟩
  ·obtain⟨b,o,sz,rfl,hb,hss,Ux⟩:=Ua he;refine⟨ys,hk,Uc,.inr λy hy c hc=>?_,⟨_,cap,rfl,?_⟩⟩
   ·obtain⟨i,hi⟩:=R5.1 hy;obtain⟨j,hj⟩:=R5.1 hc;obtain⟨_,_,h2,_⟩:=FC (Dr hss Ux i y hi) j c hj;exact h2
   have:sz=size:=by
    obtain⟨y,hy⟩:=List.exists_mem_of_ne_nil ys he;rw[<- hss y hy,Uc y hy]
   subst this;exact .inr ⟨b,o,rfl,λi y hy=>G3 (Dr hss Ux i y hy)⟩
 | zc=>
  obtain⟨Uc,hk⟩:=h;simp only[AF]at hx;obtain⟨ad,rfl⟩:=hx;exact⟨[],hk,by simp,.inl rfl,⟨ad,0,rfl,.inl rfl⟩⟩
 | own id g n=>
  obtain⟨row,T4,hg,Xv,hnw,Uc,hk⟩:=AU h;obtain⟨o,ho,rfl⟩:=hr.row T4;simp only[AF]at hx;obtain⟨o',UZ,W4,_,hx⟩:=hx;rw[ho]at UZ;cases UZ;obtain⟨hle,hx⟩:=hx hg;simp only[Ef hnw]at hx;refine⟨_,hk,Uc,.inr (λy hy=>Xv y (SZ hy)),?_⟩;have hlen:(o.row.xs.take n).length=n:=by simp;omega
  rcases hx with ⟨hb,Vf,ad,rfl⟩|⟨b,hb,rfl⟩
  ·have:=((hr.rows id o ho).nil hb Vf).1;exact⟨ad,0,by rw[hlen],.inl (by rw[this];simp)⟩
  ·refine⟨_,o.cap,by rw[hlen],.inr ⟨b,0,rfl,λi y hy=>?_⟩⟩;have Y9:=hy;rw[SB]at hy;split at hy
   ·have h1:=hr.IS ho hb hy;have:o.row.size=size:=by
     rw[<- Uc y (Ro Y9)];exact (((hr.rows id o ho).lens y (Ro hy)).1).symm
    rw[this]at h1;simpa using h1
   ·cases hy
 | _=>exact h.elim
theorem Kj {b o size:Nat}{ys:List (List AV)}(Uc :∀y∈ys,y.length=size)(h :∀(i:Nat) y,ys[i]?=some y->FQ F w os b (o+i*size) y):
  ∃us:List Value,us.length=ys.length*size/\(∀(j:Nat) u,us[j]?=some u->w.cell? ((⟨b,o,none⟩:Addr).add j)=some u)/\(∀u∈us,u.oneCell'=true)/\
   ∀(i:Nat) y,ys[i]?=some y->∀(j:Nat) c,y[j]?=some c->∃u,us[i*size+j]?=some u/\c.kept=true/\AF F w os c u:=by
 have fN:∀j,j<ys.length*size->∃i y c,j=i*size+j % size/\ys[i]?=some y/\y[j % size]?=some c:=λj hj=>by
  have Ui:0<size:=Nat.pos_of_ne_zero (by rintro rfl;simp at hj);have hi:j / size<ys.length:=by rw[Nat.div_lt_iff_lt_mul Ui];exact hj
  have gk:j % size<(ys[j / size]).length:=by rw[Uc _ (S7 hi)];exact Nat.mod_lt _ Ui
  exact⟨j / size,ys[j / size],(ys[j / size])[j % size],by rw[Nat.mul_comm];exact (Nat.div_add_mod j size).symm,Rt hi,Rt gk⟩
 refine⟨(List.range (ys.length*size)).map λj=>(w.cell? ((⟨b,o,none⟩:Addr).add j)).getD undef,by simp,λj u hu=>?_,λu hu=>?_,λi y hy j c hc=>?_⟩
 ·have hj:j<ys.length*size:=by have:=(Rq.1 hu).1;simpa using this
  simp only[Rs,TR hj,SG,Rr]at hu;obtain⟨i,y,c,he,hy,hc⟩:=fN j hj;obtain⟨u',h1,_⟩:=h i y hy _ c hc;rw[Bq,he,<- TC]at hu⊢;rw[h1]at hu⊢;simp only[Sv]at hu;rw[hu]
 ·obtain⟨j,hj,rfl⟩:=R9.1 hu;rw[Tb]at hj;obtain⟨i,y,c,he,hy,hc⟩:=fN j hj;obtain⟨u',h1,h2,h3⟩:=h i y hy _ c hc;rw[Bq,he,<- TC,h1];exact J7 h2 h3
 ·have hi:=(Rq.1 hy).1;have Vr:j<size:=by rw[<- Uc y (Ro hy)];exact (Rq.1 hc).1
  obtain⟨u,h1,h2,h3⟩:=h i y hy j c hc;have UM:i*size+j<ys.length*size:=by
   have:(i+1)*size<=ys.length*size:=SS _ hi;rw[SQ]at this;omega
  refine⟨u,?_,h2,h3⟩;simp only[Rs,TR UM,SG,Bq,<- TC,h1,Sv]
end Go.Abs
