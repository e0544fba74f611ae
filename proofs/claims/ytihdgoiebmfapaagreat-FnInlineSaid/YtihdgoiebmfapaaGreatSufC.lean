import Derived.Test.YtihdgoiebmfapaaGreatCopyC
set_option linter.all false
namespace Go.Abs
open Go RC
section
variable {P : Program} {k : Nat} {ops : Array Oper} {Q : Exit -> St -> Prop} {ds : List (Option Tmp)} {r : List Oper} {n : Nat} {e : Nat -> AV} {st : List Row} {o : Oper}
theorem fg {C:List Row->AV->Prop}(hn:o.guard=none)(h :∀F os a w,Rel F os ⟨n,e,st⟩ a w->∃st' v,C st' v/\∃z w' F' os',(execOp a.eval o).run P w=.ok (.value z) w'/\Rel F' os' ⟨n,e,st'⟩ a w'/\Ab F' w' os' v z/\Ext F os w F' os' w' k)
  (hk :∀st' v,C st' v->AO P k ops Q (ds++[o.dst]) r (St.put ⟨n,e,st'⟩ o.dst v)):AO P k ops Q ds (o::r) ⟨n,e,st⟩:=by
 intro hl yB vM F os a w hr Q' hQ;have ho:ops[ds.length]?=some o:=by have:=hl 0;simpa using this.symm
 have zV:Cx n o.dst=true:=vM o (by have:=oz (l:=ops.toList) (i:=ds.length) (by simpa using ho);exact this);have yb :∀(j:Nat),r[j]?=ops[(ds++[o.dst]).length+j]?:=λj=>by
  have:=hl (j+1);simp only[pz]at this;rw[this];congr 1;simp;omega
 have yD :∀(j:Nat) d,(ds++[o.dst])[j]?=some d->(ops[j]?).map (·.dst)=some d:=λj d hj=>by
  rcases ql j ds.length with h1|h1|h1
  .rw[pN h1]at hj;exact yB j d hj
  .subst h1;rw[J1,pD]at hj;rw[ho];simp[hj]
  .rw[qB (by simp;omega)]at hj;cases hj
 obtain⟨st',v,hC,z,w',F',os',h1,h2,h3,h4⟩:=h F os a w hr;unfold wpList;rw[pJ (by unfold Region.wanted;rw[hn])];refine .inl ?_;unfold Oper.wp;rw[h1];simp only[Oper.upon];refine hk st' v hC yb yD (by cases o.dst<;>exact vM) F' os' _ w' (h2.put zV h3) Q' λ_ _ _ hp=>hQ _ _ _ (hp.trans h4)
theorem TB {F:Nat->Prop}{w':World}{os':List Own}{g el b cap:Nat}{more:Nat->Prop}{l':List Int}{wa:Array Value}(hF:¬ F b)(vH:w'.heap[b]?=some (.cells wa el (0,0)))(uf:wa.size=cap)(hle:l'.length<=cap)(vo:cap<=maxLen)
  (hl:wa.toList.take l'.length=l'.map (Value.int .i64)) (hmo :∀c,more c->¬ F c/\c<w'.heap.size/\b≠c):Md F w' os' ⟨⟨g,el,1,l'.map eI⟩,some b,cap,more⟩:=by
 have hflat:∀x∈l'.map eI,∀c∈x,c.leaf=true:=by
  intro x hx c hc;obtain⟨z,_,rfl⟩:=pS.1 hx;simp only[eI,pU]at hc;subst hc;rfl
 refine⟨Nat.one_pos,λx hx=>⟨?_,λc hc=>Di (hflat x hx c hc)⟩,λe=>(by cases e),λc hc=>?_,λc hc=>⟨(hmo c hc).1,(hmo c hc).2.1,λe=>(hmo c hc).2.2 (by simpa using e)⟩,EK hflat⟩
 .obtain⟨z,_,rfl⟩:=pS.1 hx;simp[eI]
 .simp only[pD]at hc;subst hc;exact⟨hF,wa,vH,by simpa using uf,by simpa using hle,vo,bY hl⟩
theorem WC {w:World}{ty:TypeId}(t e:TypeId)(i:TypeInfo)(ht:P.underlying t=some (.slice e))(hi:P.info? e=some i)
  (g off zY sCap:Nat) (cur:Array Value) (hg:w.heap[g]?=some (.cells cur e (0,0)))
  (a:Addr) (m c:Nat) (news:List Value) (hl:news.length=m*i.size) (vu :∀j u,news[j]?=some u->w.cell? (a.add j)=some u) (h1 :∀u∈news,u.oneCell'=true)
  (vv:zY+m<=sCap) (vg:off+zY*i.size+news.length<=cur.size) :
  (Builtin.append_ #[t,t] ty #[.slice (some ⟨g,off,none⟩) zY sCap,.slice (some a) m c]).run P w =
   .ok (.slice (some ⟨g,off,none⟩) (zY+m) sCap) (w.setRow g (cur.toList.take (off+zY*i.size)++news++cur.toList.drop (off+zY*i.size+news.length)).toArray):=by
 have hf:=run_firstCells_some (P:=P) w i.size m a m c news hl vu;have uW:=run_storeCells_at P g (off+zY*i.size) e news 0 cur w hg (by simpa using vg) h1;simp only[qp]at uW;simp[Builtin.append_,qR ht,sizeOf,typeInfo,hi,Builtin.lenOf,vv,hf,Addr.add_lit,uW]
section
variable {ty : TypeId} {p : String} {ed : Array Edge} {t : Tmp} {x y : Operand} {bytes id g q gq : Nat} {el elq T : TypeId} {zz : List AV} {pre l l' : List Int} {v : Int}
theorem lQ (he:DB P T=some ⟨el,1,bytes,zz⟩)(hx:St.ev ⟨n,e,st⟩ x=.own id g l.length)(hr:st[id]?=some ⟨g,el,1,(pre++l).map eI⟩)(hy:St.ev ⟨n,e,st⟩ y=.own q gq 1)(hq:st[q]?=some ⟨gq,elq,1,[v].map eI⟩)
  (ha:Sh.app l [v] bytes=some l')
  (hk :∀vN:List Int,AO P k ops Q (ds++[some t]) r ⟨n,DQ e t (.own id (g+1) l'.length),st.set id ⟨g+1,el,1,(vN++l').map eI⟩⟩):AO P k ops Q ds (⟨some t,.call ⟨.builtin .append,#[x,y],#[T,T]⟩,ty,p,ed,none⟩::r) ⟨n,e,st⟩:=by
 unfold Sh.app at ha;split at ha
 case isFalse=>cases ha
 rename_i hbd;simp only[pD]at ha;subst ha;refine fg (C:=λst' w=>∃vN:List Int,st'=st.set id ⟨g+1,el,1,(vN++(l++[v])).map eI⟩/\w=.own id (g+1) (l++[v]).length) rfl (λF os a w hrel=>?_) (λst' w hC=>?_)
 case refine_2=>obtain⟨vN,rfl,rfl⟩:=hC;exact hk vN
 obtain⟨inf,z,hu,hi,hz,wb,vA,uf,hby,hzz,vT⟩:=HX he;dsimp only at hu hi wb vA uf hby hzz vT;have h1:=hrel.ev x;rw[hx]at h1;simp only[Ab]at h1;obtain⟨o,ho,_,_,h1⟩:=h1;obtain⟨o',uz,hor⟩:=hrel.row hr;rw[ho]at uz;cases uz;have uA:=hrel.rows id o ho;have wR:o.row.xs=(pre++l).map eI:=by rw[hor]
 have E9:o.row.size=1:=by rw[hor]
 have helm:o.row.elem=el:=by rw[hor]
 have wc:o.row.gen=g:=by rw[hor]
 obtain⟨_,h1⟩:=h1 wc;rw[wR,E9]at h1;simp only[pR,pW,Nat.add_sub_cancel,rj]at h1;have h2:=hrel.ev y;rw[hy]at h2;simp only[Ab]at h2;obtain⟨oq,hoq,_,_,h2⟩:=h2;obtain⟨oq',hoq',hqr⟩:=hrel.row hq;rw[hoq]at hoq';cases hoq';have hokq:=hrel.rows q oq hoq;have hqx:oq.row.xs=[v].map eI:=by rw[hqr]
 obtain⟨_,h2⟩:=h2 (by rw[hqr]);rw[hqx]at h2;simp only[pd,qu,ru,qy,sD,sf]at h2;obtain⟨bq,hbq,hyv⟩ :∃bq,oq.GC=some bq/\a.eval y=.slice (some ⟨bq,0,none⟩) 1 oq.cap:=by
  rcases h2 with ⟨hb,_⟩|h
  .have:=(hokq.none hb).1;rw[hqx]at this;simp at this
  .exact h
 obtain⟨_,curq,hcurq,_,_,_,hcellsq⟩:=hokq.some bq hbq;have vu:∀(j:Nat) u,[Value.int .i64 v][j]?=some u->w.cell? ((⟨bq,0,none⟩:Addr).add j)=some u:=λj u vn=>by
  cases j with
  |succ j=>simp at vn
  |zero=>
   have:u=Value.int .i64 v:=by simpa using vn.symm
   subst this;obtain⟨u,e1,e2⟩:=hcellsq 0 (eI v) (by rw[hqx];rfl) 0 _ rfl;simp only[Ab]at e2;rw[Cf,rl w bq _ curq _ _ hcurq];rw[sD,qP]at e1;rw[e1,e2]
 have yv:∀u∈[Value.int .i64 v],u.oneCell'=true:=λu vn=>by
  obtain rfl:u=Value.int .i64 v:=by simpa using vn
  rfl
 have hnl:[Value.int .i64 v].length=1*inf.size:=by rw[<- uf];rfl
 have hex:∀xv,a.eval x=xv->∀zv w',(Builtin.append_ #[T,T] ty #[xv,.slice (some ⟨bq,0,none⟩) 1 oq.cap]).run P w=.ok zv w'->(execOp a.eval ⟨some t,.call ⟨.builtin .append,#[x,y],#[T,T]⟩,ty,p,ed,none⟩).run P w=.ok (.value zv) w':=λxv hxv zv w' uQ=>by
  simp only[execOp,resolve,invoke,builtin,qH,qW,qF,sX,pd,qu];rw[hxv,hyv,uQ];rfl
 have wJ:∀o':Own,(os.set id o')[id]?=some o':=λo'=>pP (pB.1 ho).1;have zM:(l++[v]).length=l.length+1:=by simp
 have zE:∀cap,l.length+1<=cap->cap<=maxLen->(Builtin.append_ #[T,T] ty #[a.eval x,.slice (some ⟨bq,0,none⟩) 1 oq.cap]).run P w =
   .ok (.slice (some ⟨w.heap.size,0,none⟩) (l.length+1) cap) (w.drew.alloc (.cells ((l.map (Value.int .i64)).toArray++[Value.int .i64 v].toArray++Builtin.zeroCells z.cells (cap-(l.length+1))) el))->
   ∃st' v',(∃vN:List Int,st'=st.set id ⟨g+1,el,1,(vN++(l++[v])).map eI⟩/\v'=.own id (g+1) (l++[v]).length)/\∃z w' F' os',(execOp a.eval ⟨some t,.call ⟨.builtin .append,#[x,y],#[T,T]⟩,ty,p,ed,none⟩).run P w=.ok (.value z) w'/\Rel F' os' ⟨n,e,st'⟩ a w'/\Ab F' w' os' v' z/\Ext F os w F' os' w' k:=λcap xN vo uQ=>by
  have hT:=hrel.LR (k:=k) (o':=⟨⟨g+1,el,1,([]++(l++[v])).map eI⟩,some w.heap.size,cap,o.more⟩) ho (w':=w.drew.alloc (.cells ((l.map (Value.int .i64)).toArray++[Value.int .i64 v].toArray++Builtin.zeroCells z.cells (cap-(l.length+1))) el)) (Ku _ _ _) (by simp[wc]) (by simp[E9]) (λe=>by simp[wc]at e)
   (λc hc=>by
    rcases hc with hc|hc
    .simp only[pD]at hc;exact .inr (by omega)
    .exact .inl (.inr hc)) (λ_=>by
    refine TB (λhF=>by have:=hrel.Fp _ hF;omega) (sm w.drew _) ?_ (by simpa using xN) vo ?_ (λc hc=>?_)
    .simp only[sv,rY,pR,ru,su,wb,<- uf,rj];omega
    .have e0:((l.map (Value.int .i64)).toArray++[Value.int .i64 v].toArray++Builtin.zeroCells z.cells (cap-(l.length+1))).toList=([]++(l++[v])).map (Value.int .i64)++(Builtin.zeroCells z.cells (cap-(l.length+1))).toList:=by simp
     rw[e0];exact List.take_left' (by simp)
    .have hm:=uA.mo c hc;exact⟨hm.1,by simp;omega,by omega⟩)
  refine⟨_,_,⟨[],rfl,rfl⟩,_,_,F,_,hex _ rfl _ _ uQ,hT.1,?_,hT.2.1⟩;simp only[Ab];exact⟨_,wJ _,pM _,⟨_,_,_,rfl⟩,λ_=>⟨by simp,.inr ⟨_,rfl,by simp⟩⟩⟩
 have xY:=sy w (l.length+1);have zA:=rn w (l.length+1);have hm63:l.length+1<=9223372036854775807:=by simpa using hbd.2
 have hb48:(l.length+1)*inf.bytes<=140737488355328:=by rw[<- hby];simpa using hbd.1
 rcases h1 with ⟨hb,ad,hxv⟩|⟨b,hb,hxv⟩
 .have hnil:=(uA.none hb).1;rw[wR]at hnil;obtain⟨_,rfl⟩:pre=[]/\l=[]:=by simpa using hnil
  refine zE (grownCap w (0+1) 0 el) (by simpa using xY 0 el) (by simpa using zA 0 el (by simp[maxLen])) ?_;rw[hxv];cases ad with
  |none=>
   have:=sq (P:=P) w T ty el inf z hu hi hz ⟨bq,0,none⟩ 1 oq.cap [Value.int .i64 v] hnl vu (by omega) (by omega) (by have h9:=hb48;simp only[qj,qP,Nat.one_mul]at h9⊢;omega);simpa using this
  |some a0=>
   have:=rX (P:=P) w T ty el inf z hu hi hz a0 0 0 [] (by simp) (by simp) ⟨bq,0,none⟩ 1 oq.cap [Value.int .i64 v] hnl vu (by omega) (by omega) (ri (by omega) (by simpa using hb48));simpa using this
 .obtain⟨hF,cur,uP,vp,hle,hmx,uL⟩:=uA.some b hb;rw[wR,E9]at uL;rw[E9,rj]at vp;rw[wR,pR,pW]at hle;rw[helm]at uP;have ht:=Ve uL;rw[pW]at ht;have xb:cur.toList.length=o.cap:=by rw[rP,vp]
  by_cases vv:l.length+1<=o.cap-pre.length
  .have uQ:=WC (P:=P) (w:=w) (ty:=ty) T el inf hu hi b pre.length l.length (o.cap-pre.length) cur uP ⟨bq,0,none⟩ 1 oq.cap [Value.int .i64 v] hnl vu yv vv (by rw[<- uf,vp];simp;omega);rw[<- uf,rj]at uQ;have hw:(w.setRow b (cur.toList.take (pre.length+l.length)++[Value.int .i64 v]++cur.toList.drop (pre.length+l.length+[Value.int .i64 v].length)).toArray).heap[b]?=some (.cells (cur.toList.take (pre.length+l.length)++[Value.int .i64 v]++cur.toList.drop (pre.length+l.length+[Value.int .i64 v].length)).toArray el (0,0)):=sb w b cur _ _ _ uP;have hT:=hrel.LR (k:=k) (o':=⟨⟨g+1,el,1,(pre++(l++[v])).map eI⟩,some b,o.cap,o.more⟩) ho (w':=w.setRow b (cur.toList.take (pre.length+l.length)++[Value.int .i64 v]++cur.toList.drop (pre.length+l.length+[Value.int .i64 v].length)).toArray) (by rw[hb];exact HF.setRow _ _ _) (by simp[wc]) (by simp[E9]) (λe=>by simp[wc]at e)
    (λc hc=>.inl (hc.elim (λhc=>.inl (by rw[hb];exact hc)) .inr)) (λ_=>by
     refine TB hF hw ?_ (by simp;omega) hmx ?_ (λc hc=>?_)
     .simp;omega
     .rw[ht];have e0:((pre++l).map (Value.int .i64)++[Value.int .i64 v]++cur.toList.drop (pre.length+l.length+[Value.int .i64 v].length)).toArray.toList=(pre++(l++[v])).map (Value.int .i64)++cur.toList.drop (pre.length+l.length+[Value.int .i64 v].length):=by simp
      rw[e0];exact List.take_left' (by simp)
     .have hm:=uA.mo c hc;refine⟨hm.1,qM hm.2.1 (HF.setRow w b _).size,λe=>hm.2.2 (by rw[hb,e])⟩)
   refine⟨_,_,⟨pre,rfl,rfl⟩,_,_,F,_,hex _ hxv _ _ uQ,hT.1,?_,hT.2.1⟩;simp only[Ab];refine⟨_,wJ _,pM _,⟨_,_,_,rfl⟩,λ_=>⟨by simp,.inr ⟨b,rfl,?_⟩⟩⟩;simp
  .refine zE (grownCap w (l.length+1) (o.cap-pre.length) el) (by simpa using xY (o.cap-pre.length) el) (by simpa using zA (o.cap-pre.length) el (by simp only[maxLen]at hmx⊢;omega)) ?_;rw[hxv];exact rX (P:=P) w T ty el inf z hu hi hz ⟨b,pre.length,none⟩ l.length (o.cap-pre.length) (l.map (Value.int .i64)) (by rw[<- uf];simp) (λj u hj=>by
    rw[pC,pI]at hj;obtain⟨z0,hz0,rfl⟩:=hj;obtain⟨u,e1,e2⟩:=uL (pre.length+j) (eI z0) (by rw[pC,pO (by omega),Nat.add_sub_cancel_left,hz0];rfl) 0 _ rfl;simp only[Ab]at e2;rw[Cf,rl w b _ cur _ _ uP];rw[rj,qp]at e1;rw[e1,e2]) ⟨bq,0,none⟩ 1 oq.cap [Value.int .i64 v] hnl vu (by omega) (by omega) (ri (by omega) hb48)
variable {α : Type} {enc : α -> List AV} {pr m : List α} {u : α} {j : Int} {kk : IntKind} {size : Nat} {s : St}
theorem lH (he:DB P T=some ⟨el,size,bytes,zz⟩)(hx:s.ev x=.own id g m.length)(hy:s.ev y=.int kk j)(hr:s.st[id]?=some ⟨g,el,size,(pr++m).map enc⟩)(hg:Sh.get m j=some u):
  AQ P s (.indexAddr T x y) (.ptr id g (pr.length+j.toNat) 0):=λK hk=>by
 show Is P s.st T (s.ev x) (s.ev y) K;rw[hx,hy];exact Aj _ he ⟨(Sh.get_some hg).1,(Sh.get_some hg).2.2,Aj _ hr ⟨rfl,rfl,by simpa using hk⟩⟩
theorem jB (hg:Sh.get m j=some u):((pr++m).map enc)[pr.length+j.toNat]?=some (enc u):=by
 rw[pC,pO (by omega),Nat.add_sub_cancel_left,(Sh.get_some hg).2.1];rfl
theorem lB {lo:Operand}{z0:Int}(he:DB P T=some ⟨el,1,bytes,zz⟩)(hx:St.ev ⟨n,e,st⟩ x=.own id g (z0::l).length)(yQ:St.ev ⟨n,e,st⟩ lo=.int kk 1)(hr:st[id]?=some ⟨g,el,1,(pre++z0::l).map eI⟩)
  (hk :∀vN:List Int,AO P k ops Q (ds++[some t]) r ⟨n,DQ e t (.own id (g+1) l.length),st.set id ⟨g+1,el,1,(vN++l).map eI⟩⟩):AO P k ops Q ds (⟨some t,.slice T x (some lo) none none,ty,p,ed,none⟩::r) ⟨n,e,st⟩:=by
 refine fg (C:=λst' w=>∃vN:List Int,st'=st.set id ⟨g+1,el,1,(vN++l).map eI⟩/\w=.own id (g+1) l.length) rfl (λF os a w hrel=>?_) (λst' w hC=>?_)
 case refine_2=>obtain⟨vN,rfl,rfl⟩:=hC;exact hk vN
 obtain⟨inf,z,hu,hi,hz,wb,vA,uf,hby,hzz,vT⟩:=HX he;dsimp only at hu hi wb vA uf hby hzz vT;have h1:=hrel.ev x;rw[hx]at h1;simp only[Ab]at h1;obtain⟨o,ho,_,_,h1⟩:=h1;obtain⟨o',uz,hor⟩:=hrel.row hr;rw[ho]at uz;cases uz;have uA:=hrel.rows id o ho;have wR:o.row.xs=(pre++z0::l).map eI:=by rw[hor]
 have E9:o.row.size=1:=by rw[hor]
 have helm:o.row.elem=el:=by rw[hor]
 have wc:o.row.gen=g:=by rw[hor]
 obtain⟨_,h1⟩:=h1 wc;rw[wR,E9]at h1;simp only[pR,pW,Nat.add_sub_cancel,rj]at h1;have h2:=hrel.ev lo;rw[yQ]at h2;simp only[Ab]at h2;have wJ:∀o':Own,(os.set id o')[id]?=some o':=λo'=>pP (pB.1 ho).1;obtain⟨b,hb,hxv⟩ :∃b,o.GC=some b/\a.eval x=.slice (some ⟨b,pre.length,none⟩) (z0::l).length (o.cap-pre.length):=by
  rcases h1 with ⟨hb,_⟩|h
  .have:=(uA.none hb).1;rw[wR]at this;simp at this
  .exact h
 obtain⟨hF,cur,uP,vp,hle,hmx,uL⟩:=uA.some b hb;rw[wR,E9]at uL;rw[E9,rj]at vp;rw[wR,pR,pW,pq]at hle;rw[helm]at uP;have ht:=Ve uL;have uQ:=My (P:=P) (w:=w) hu hi (some ⟨b,pre.length,none⟩) (z0::l).length (o.cap-pre.length) 1 (z0::l).length (some (.int kk 1)) none (.inr ⟨kk,rfl⟩) (.inl ⟨rfl,rfl⟩) (by simp) (by simp;omega);have hex:∀zv,(Instr.sliceAt T (.slice (some ⟨b,pre.length,none⟩) (z0::l).length (o.cap-pre.length)) (some (.int kk 1)) none none).run P w=.ok zv w->(execOp a.eval ⟨some t,.slice T x (some lo) none none,ty,p,ed,none⟩).run P w=.ok (.value zv) w:=λzv hr=>by
  simp only[execOp,qH,qW,qG,sc,hxv,h2];rw[hr];rfl
 by_cases hc1:o.cap-pre.length=1
 .have hl0:l=[]:=by
   have:l.length=0:=by omega
   simpa using this
  subst hl0;rw[pJ hc1]at uQ;have hT:=hrel.LR (k:=k) (o':=⟨⟨g+1,el,1,([]++[]).map eI⟩,none,0,o.more⟩) ho (w':=w) (HF.refl _ _) (by simp[wc]) (by simp[E9]) (λe=>by simp[wc]at e) (λc hc=>.inl (hc.elim (λhc=>by cases hc) .inr)) (λ_=>
   ⟨Nat.one_pos,by simp,by simp,by simp,λc hc=>⟨(uA.mo c hc).1,(uA.mo c hc).2.1,by simp⟩,EK (by simp)⟩)
  refine⟨_,_,⟨[],rfl,rfl⟩,_,_,F,_,hex _ uQ,hT.1,?_,hT.2.1⟩;simp only[Ab];exact⟨_,wJ _,pM _,⟨_,_,_,rfl⟩,λ_=>⟨by simp,.inl ⟨rfl,_,by rw[hc1];rfl⟩⟩⟩
 .rw[pK hc1]at uQ;have hT:=hrel.LR (k:=k) (o':=⟨⟨g+1,el,1,((pre++[z0])++l).map eI⟩,some b,o.cap,o.more⟩) ho (w':=w) (HF.refl _ _) (by simp[wc]) (by simp[E9]) (λe=>by simp[wc]at e) (λc hc=>.inl (hc.elim (λhc=>.inl (by rw[hb];exact hc)) .inr)) (λ_=>by
   refine TB hF uP vp (by simp;omega) hmx (by rw[<- List.append_cons];exact ht) (λc hc=>?_);have hm:=uA.mo c hc;exact⟨hm.1,hm.2.1,λe=>hm.2.2 (by rw[hb,e])⟩)
  refine⟨_,_,⟨pre++[z0],rfl,rfl⟩,_,_,F,_,hex _ uQ,hT.1,?_,hT.2.1⟩;simp only[Ab];refine⟨_,wJ _,pM _,⟨_,_,_,rfl⟩,λ_=>⟨by simp;omega,.inr ⟨b,rfl,?_⟩⟩⟩;rw[<- uf];simp[Cf];omega
theorem jd {xU:TypeId}{xs:List (List AV)}(hs:DH P T=true)(hx:s.ev x=.own id g m.length)(hr:s.st[id]?=some ⟨g,xU,size,xs⟩):AQ P s (.call ⟨.builtin .len,#[x],#[T]⟩) (i64 (Sh.len m)):=λK hk=>by
 refine⟨hs,?_⟩;rw[hx];exact Aj _ hr ⟨rfl,hk⟩
theorem lA {lo:Operand}{q:List Int}(he:DB P T=some ⟨el,1,bytes,zz⟩)(hc:Sh.sl q 1 (Sh.len q)=some l)(hx:St.ev ⟨n,e,st⟩ x=.own id g q.length)(yQ:St.ev ⟨n,e,st⟩ lo=.int kk 1)(hr:st[id]?=some ⟨g,el,1,(pre++q).map eI⟩)
  (hk :∀vN:List Int,AO P k ops Q (ds++[some t]) r ⟨n,DQ e t (.own id (g+1) l.length),st.set id ⟨g+1,el,1,(vN++l).map eI⟩⟩):AO P k ops Q ds (⟨some t,.slice T x (some lo) none none,ty,p,ed,none⟩::r) ⟨n,e,st⟩:=by
 cases q with
 |nil=>simp[Sh.sl,Sh.len]at hc
 |cons z0 q=>
  have h9:l=q:=by
   unfold Sh.sl at hc;split at hc
   .simp only[pD,Sh.len]at hc;rw[<- hc];simp
   .cases hc
  subst h9;exact lB he hx yQ hr hk
theorem jb {stf:List Int->List Row}(he:DB P T=some ⟨el,1,bytes,zz⟩)(hx:St.ev ⟨n,e,st⟩ x=.own id g l.length)(hr:st[id]?=some ⟨g,el,1,(pre++l).map eI⟩)(hy:St.ev ⟨n,e,st⟩ y=.own q gq 1)(hq:st[q]?=some ⟨gq,elq,1,[v].map eI⟩)
  (ha:Sh.app l [v] bytes=some l') (uW :∀vN:List Int,st.set id ⟨g+1,el,1,(vN++l').map eI⟩=stf vN)
  (hk :∀vN:List Int,AO P k ops Q (ds++[some t]) r ⟨n,DQ e t (.own id (g+1) l'.length),stf vN⟩):AO P k ops Q ds (⟨some t,.call ⟨.builtin .append,#[x,y],#[T,T]⟩,ty,p,ed,none⟩::r) ⟨n,e,st⟩:=
 lQ he hx hr hy hq ha λvN=>by rw[uW];exact hk vN
theorem jq {stf:List Int->List Row}{lo:Operand}{q:List Int}(he:DB P T=some ⟨el,1,bytes,zz⟩)(hc:Sh.sl q 1 (Sh.len q)=some l)(hx:St.ev ⟨n,e,st⟩ x=.own id g q.length)(yQ:St.ev ⟨n,e,st⟩ lo=.int kk 1)(hr:st[id]?=some ⟨g,el,1,(pre++q).map eI⟩)
  (uW :∀vN:List Int,st.set id ⟨g+1,el,1,(vN++l).map eI⟩=stf vN)
  (hk :∀vN:List Int,AO P k ops Q (ds++[some t]) r ⟨n,DQ e t (.own id (g+1) l.length),stf vN⟩):AO P k ops Q ds (⟨some t,.slice T x (some lo) none none,ty,p,ed,none⟩::r) ⟨n,e,st⟩:=
 lA he hc hx yQ hr λvN=>by rw[uW];exact hk vN
end
end
end Go.Abs
