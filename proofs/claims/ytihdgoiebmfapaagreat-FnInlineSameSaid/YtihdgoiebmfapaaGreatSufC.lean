import Derived.Test.YtihdgoiebmfapaaGreatCopyC
set_option linter.all false
namespace Go.Abs
open Go RC
section
variable {P : Program} {k : Nat} {ops : Array Oper} {Q : Exit -> St -> Prop} {ds : List (Option Tmp)} {r : List Oper} {n : Nat} {e : Nat -> AV} {st : List Row} {o : Oper}
theorem ft {C:List Row->AV->Prop}(hn:o.guard=none)(h :∀F os a w,Rel F os ⟨n,e,st⟩ a w->∃st' v,C st' v/\∃z w' F' os',(execOp a.eval o).run P w=.ok (.value z) w'/\Rel F' os' ⟨n,e,st'⟩ a w'/\Ab F' w' os' v z/\Ext F os w F' os' w' k)
  (hk :∀st' v,C st' v->AO P k ops Q (ds++[o.dst]) r (St.put ⟨n,e,st'⟩ o.dst v)):AO P k ops Q ds (o::r) ⟨n,e,st⟩:=by
 intro hl yB vL F os a w hr Q' hQ;have ho:ops[ds.length]?=some o:=by have:=hl 0;simpa using this.symm
 have zU:Cy n o.dst=true:=vL o (by have:=ov (l:=ops.toList) (i:=ds.length) (by simpa using ho);exact this);have yb :∀(j:Nat),r[j]?=ops[(ds++[o.dst]).length+j]?:=λj=>by
  have:=hl (j+1);simp only[py]at this;rw[this];congr 1;simp;omega
 have yD :∀(j:Nat) d,(ds++[o.dst])[j]?=some d->(ops[j]?).map (·.dst)=some d:=λj d hj=>by
  rcases qk j ds.length with h1|h1|h1
  .rw[pM h1]at hj;exact yB j d hj
  .subst h1;rw[J1,pC]at hj;rw[ho];simp[hj]
  .rw[qA (by simp;omega)]at hj;cases hj
 obtain⟨st',v,hC,z,w',F',os',h1,h2,h3,h4⟩:=h F os a w hr;unfold wpList;rw[pI (by unfold Region.wanted;rw[hn])];refine .inl ?_;unfold Oper.wp;rw[h1];simp only[Oper.upon];refine hk st' v hC yb yD (by cases o.dst<;>exact vL) F' os' _ w' (h2.put zU h3) Q' λ_ _ _ hp=>hQ _ _ _ (hp.trans h4)
theorem SZ {F:Nat->Prop}{w':World}{os':List Own}{g el b cap:Nat}{more:Nat->Prop}{l':List Int}{wa:Array Value}(hF:¬ F b)(vG:w'.heap[b]?=some (.cells wa el (0,0)))(ue:wa.size=cap)(hle:l'.length<=cap)(vp:cap<=maxLen)
  (hl:wa.toList.take l'.length=l'.map (Value.int .i64)) (hmo :∀c,more c->¬ F c/\c<w'.heap.size/\b≠c):Ma F w' os' ⟨⟨g,el,1,l'.map eI⟩,some b,cap,more⟩:=by
 have hflat:∀x∈l'.map eI,∀c∈x,c.leaf=true:=by
  intro x hx c hc;obtain⟨z,_,rfl⟩:=pQ.1 hx;simp only[eI,pS]at hc;subst hc;rfl
 refine⟨Nat.one_pos,λx hx=>⟨?_,λc hc=>Dg (hflat x hx c hc)⟩,λe=>(by cases e),λc hc=>?_,λc hc=>⟨(hmo c hc).1,(hmo c hc).2.1,λe=>(hmo c hc).2.2 (by simpa using e)⟩,EJ hflat⟩
 .obtain⟨z,_,rfl⟩:=pQ.1 hx;simp[eI]
 .simp only[pC]at hc;subst hc;exact⟨hF,wa,vG,by simpa using ue,by simpa using hle,vp,cw hl⟩
theorem Wd {w:World}{ty:TypeId}(t e:TypeId)(i:TypeInfo)(ht:P.underlying t=some (.slice e))(hi:P.info? e=some i)
  (g off zX sCap:Nat) (cur:Array Value) (hg:w.heap[g]?=some (.cells cur e (0,0)))
  (a:Addr) (m c:Nat) (news:List Value) (hl:news.length=m*i.size) (vv :∀j u,news[j]?=some u->w.cell? (a.add j)=some u) (h1 :∀u∈news,u.oneCell'=true)
  (vw:zX+m<=sCap) (vh:off+zX*i.size+news.length<=cur.size) :
  (Builtin.append_ #[t,t] ty #[.slice (some ⟨g,off,none⟩) zX sCap,.slice (some a) m c]).run P w =
   .ok (.slice (some ⟨g,off,none⟩) (zX+m) sCap) (w.setRow g (cur.toList.take (off+zX*i.size)++news++cur.toList.drop (off+zX*i.size+news.length)).toArray):=by
 have hf:=run_firstCells_some (P:=P) w i.size m a m c news hl vv;have uV:=run_storeCells_at P g (off+zX*i.size) e news 0 cur w hg (by simpa using vh) h1;simp only[qo]at uV;simp[Builtin.append_,qQ ht,sizeOf,typeInfo,hi,Builtin.lenOf,vw,hf,Addr.add_lit,uV]
section
variable {ty : TypeId} {p : String} {ed : Array Edge} {t : Tmp} {x y : Operand} {bytes id g q gq : Nat} {el elq T : TypeId} {zz : List AV} {pre l l' : List Int} {v : Int}
theorem ka (he:DB P T=some ⟨el,1,bytes,zz⟩)(hx:St.ev ⟨n,e,st⟩ x=.own id g l.length)(hr:st[id]?=some ⟨g,el,1,(pre++l).map eI⟩)(hy:St.ev ⟨n,e,st⟩ y=.own q gq 1)(hq:st[q]?=some ⟨gq,elq,1,[v].map eI⟩)
  (ha:Sh.app l [v] bytes=some l')
  (hk :∀vM:List Int,AO P k ops Q (ds++[some t]) r ⟨n,DQ e t (.own id (g+1) l'.length),st.set id ⟨g+1,el,1,(vM++l').map eI⟩⟩):AO P k ops Q ds (⟨some t,.call ⟨.builtin .append,#[x,y],#[T,T]⟩,ty,p,ed,none⟩::r) ⟨n,e,st⟩:=by
 unfold Sh.app at ha;split at ha
 case isFalse=>cases ha
 rename_i hbd;simp only[pC]at ha;subst ha;refine ft (C:=λst' w=>∃vM:List Int,st'=st.set id ⟨g+1,el,1,(vM++(l++[v])).map eI⟩/\w=.own id (g+1) (l++[v]).length) rfl (λF os a w hrel=>?_) (λst' w hC=>?_)
 case refine_2=>obtain⟨vM,rfl,rfl⟩:=hC;exact hk vM
 obtain⟨inf,z,hu,hi,hz,wb,uz,ue,hby,hzz,vS⟩:=HP he;dsimp only at hu hi wb uz ue hby hzz vS;have h1:=hrel.ev x;rw[hx]at h1;simp only[Ab]at h1;obtain⟨o,ho,_,_,h1⟩:=h1;obtain⟨o',uw,hor⟩:=hrel.row hr;rw[ho]at uw;cases uw;have tz:=hrel.rows id o ho;have wQ:o.row.xs=(pre++l).map eI:=by rw[hor]
 have E8:o.row.size=1:=by rw[hor]
 have helm:o.row.elem=el:=by rw[hor]
 have wc:o.row.gen=g:=by rw[hor]
 obtain⟨_,h1⟩:=h1 wc;rw[wQ,E8]at h1;simp only[pR,pU,Nat.add_sub_cancel,ri]at h1;have h2:=hrel.ev y;rw[hy]at h2;simp only[Ab]at h2;obtain⟨oq,hoq,_,_,h2⟩:=h2;obtain⟨oq',hoq',hqr⟩:=hrel.row hq;rw[hoq]at hoq';cases hoq';have hokq:=hrel.rows q oq hoq;have hqx:oq.row.xs=[v].map eI:=by rw[hqr]
 obtain⟨_,h2⟩:=h2 (by rw[hqr]);rw[hqx]at h2;simp only[pc,qt,rr,qx,sC,se]at h2;obtain⟨bq,hbq,hyv⟩ :∃bq,oq.GA=some bq/\a.eval y=.slice (some ⟨bq,0,none⟩) 1 oq.cap:=by
  rcases h2 with ⟨hb,_⟩|h
  .have:=(hokq.none hb).1;rw[hqx]at this;simp at this
  .exact h
 obtain⟨_,curq,hcurq,_,_,_,hcellsq⟩:=hokq.some bq hbq;have vv:∀(j:Nat) u,[Value.int .i64 v][j]?=some u->w.cell? ((⟨bq,0,none⟩:Addr).add j)=some u:=λj u vo=>by
  cases j with
  |succ j=>simp at vo
  |zero=>
   have:u=Value.int .i64 v:=by simpa using vo.symm
   subst this;obtain⟨u,e1,e2⟩:=hcellsq 0 (eI v) (by rw[hqx];rfl) 0 _ rfl;simp only[Ab]at e2;rw[Ce,rj w bq _ curq _ _ hcurq];rw[sC,qO]at e1;rw[e1,e2]
 have yv:∀u∈[Value.int .i64 v],u.oneCell'=true:=λu vo=>by
  obtain rfl:u=Value.int .i64 v:=by simpa using vo
  rfl
 have hnl:[Value.int .i64 v].length=1*inf.size:=by rw[<- ue];rfl
 have hex:∀xv,a.eval x=xv->∀zv w',(Builtin.append_ #[T,T] ty #[xv,.slice (some ⟨bq,0,none⟩) 1 oq.cap]).run P w=.ok zv w'->(execOp a.eval ⟨some t,.call ⟨.builtin .append,#[x,y],#[T,T]⟩,ty,p,ed,none⟩).run P w=.ok (.value zv) w':=λxv hxv zv w' uP=>by
  simp only[execOp,resolve,invoke,builtin,qG,qV,qD,sW,pc,qt];rw[hxv,hyv,uP];rfl
 have wI:∀o':Own,(os.set id o')[id]?=some o':=λo'=>pO (pA.1 ho).1;have zL:(l++[v]).length=l.length+1:=by simp
 have zE:∀cap,l.length+1<=cap->cap<=maxLen->(Builtin.append_ #[T,T] ty #[a.eval x,.slice (some ⟨bq,0,none⟩) 1 oq.cap]).run P w =
   .ok (.slice (some ⟨w.heap.size,0,none⟩) (l.length+1) cap) (w.drew.alloc (.cells ((l.map (Value.int .i64)).toArray++[Value.int .i64 v].toArray++Builtin.zeroCells z.cells (cap-(l.length+1))) el))->
   ∃st' v',(∃vM:List Int,st'=st.set id ⟨g+1,el,1,(vM++(l++[v])).map eI⟩/\v'=.own id (g+1) (l++[v]).length)/\∃z w' F' os',(execOp a.eval ⟨some t,.call ⟨.builtin .append,#[x,y],#[T,T]⟩,ty,p,ed,none⟩).run P w=.ok (.value z) w'/\Rel F' os' ⟨n,e,st'⟩ a w'/\Ab F' w' os' v' z/\Ext F os w F' os' w' k:=λcap xM vp uP=>by
  have hT:=hrel.LM (k:=k) (o':=⟨⟨g+1,el,1,([]++(l++[v])).map eI⟩,some w.heap.size,cap,o.more⟩) ho (w':=w.drew.alloc (.cells ((l.map (Value.int .i64)).toArray++[Value.int .i64 v].toArray++Builtin.zeroCells z.cells (cap-(l.length+1))) el)) (Kw _ _ _) (by simp[wc]) (by simp[E8]) (λe=>by simp[wc]at e)
   (λc hc=>by
    rcases hc with hc|hc
    .simp only[pC]at hc;exact .inr (by omega)
    .exact .inl (.inr hc)) (λ_=>by
    refine SZ (λhF=>by have:=hrel.Fu _ hF;omega) (sk w.drew _) ?_ (by simpa using xM) vp ?_ (λc hc=>?_)
    .simp only[su,rX,pR,rr,sq,wb,<- ue,ri];omega
    .have e0:((l.map (Value.int .i64)).toArray++[Value.int .i64 v].toArray++Builtin.zeroCells z.cells (cap-(l.length+1))).toList=([]++(l++[v])).map (Value.int .i64)++(Builtin.zeroCells z.cells (cap-(l.length+1))).toList:=by simp
     rw[e0];exact List.take_left' (by simp)
    .have hm:=tz.mo c hc;exact⟨hm.1,by simp;omega,by omega⟩)
  refine⟨_,_,⟨[],rfl,rfl⟩,_,_,F,_,hex _ rfl _ _ uP,hT.1,?_,hT.2.1⟩;simp only[Ab];exact⟨_,wI _,pL _,⟨_,_,_,rfl⟩,λ_=>⟨by simp,.inr ⟨_,rfl,by simp⟩⟩⟩
 have xX:=sx w (l.length+1);have zA:=rm w (l.length+1);have hm63:l.length+1<=9223372036854775807:=by simpa using hbd.2
 have hb48:(l.length+1)*inf.bytes<=140737488355328:=by rw[<- hby];simpa using hbd.1
 rcases h1 with ⟨hb,ad,hxv⟩|⟨b,hb,hxv⟩
 .have hnil:=(tz.none hb).1;rw[wQ]at hnil;obtain⟨_,rfl⟩:pre=[]/\l=[]:=by simpa using hnil
  refine zE (grownCap w (0+1) 0 el) (by simpa using xX 0 el) (by simpa using zA 0 el (by simp[maxLen])) ?_;rw[hxv];cases ad with
  |none=>
   have:=sn (P:=P) w T ty el inf z hu hi hz ⟨bq,0,none⟩ 1 oq.cap [Value.int .i64 v] hnl vv (by omega) (by omega) (by have h9:=hb48;simp only[qi,qO,Nat.one_mul]at h9⊢;omega);simpa using this
  |some a0=>
   have:=rW (P:=P) w T ty el inf z hu hi hz a0 0 0 [] (by simp) (by simp) ⟨bq,0,none⟩ 1 oq.cap [Value.int .i64 v] hnl vv (by omega) (by omega) (rh (by omega) (by simpa using hb48));simpa using this
 .obtain⟨hF,cur,uO,vq,hle,hmx,uK⟩:=tz.some b hb;rw[wQ,E8]at uK;rw[E8,ri]at vq;rw[wQ,pR,pU]at hle;rw[helm]at uO;have ht:=Vu uK;rw[pU]at ht;have xZ:cur.toList.length=o.cap:=by rw[rO,vq]
  by_cases vw:l.length+1<=o.cap-pre.length
  .have uP:=Wd (P:=P) (w:=w) (ty:=ty) T el inf hu hi b pre.length l.length (o.cap-pre.length) cur uO ⟨bq,0,none⟩ 1 oq.cap [Value.int .i64 v] hnl vv yv vw (by rw[<- ue,vq];simp;omega);rw[<- ue,ri]at uP;have hw:(w.setRow b (cur.toList.take (pre.length+l.length)++[Value.int .i64 v]++cur.toList.drop (pre.length+l.length+[Value.int .i64 v].length)).toArray).heap[b]?=some (.cells (cur.toList.take (pre.length+l.length)++[Value.int .i64 v]++cur.toList.drop (pre.length+l.length+[Value.int .i64 v].length)).toArray el (0,0)):=sa w b cur _ _ _ uO;have hT:=hrel.LM (k:=k) (o':=⟨⟨g+1,el,1,(pre++(l++[v])).map eI⟩,some b,o.cap,o.more⟩) ho (w':=w.setRow b (cur.toList.take (pre.length+l.length)++[Value.int .i64 v]++cur.toList.drop (pre.length+l.length+[Value.int .i64 v].length)).toArray) (by rw[hb];exact HA.setRow _ _ _) (by simp[wc]) (by simp[E8]) (λe=>by simp[wc]at e)
    (λc hc=>.inl (hc.elim (λhc=>.inl (by rw[hb];exact hc)) .inr)) (λ_=>by
     refine SZ hF hw ?_ (by simp;omega) hmx ?_ (λc hc=>?_)
     .simp;omega
     .rw[ht];have e0:((pre++l).map (Value.int .i64)++[Value.int .i64 v]++cur.toList.drop (pre.length+l.length+[Value.int .i64 v].length)).toArray.toList=(pre++(l++[v])).map (Value.int .i64)++cur.toList.drop (pre.length+l.length+[Value.int .i64 v].length):=by simp
      rw[e0];exact List.take_left' (by simp)
     .have hm:=tz.mo c hc;refine⟨hm.1,qK hm.2.1 (HA.setRow w b _).size,λe=>hm.2.2 (by rw[hb,e])⟩)
   refine⟨_,_,⟨pre,rfl,rfl⟩,_,_,F,_,hex _ hxv _ _ uP,hT.1,?_,hT.2.1⟩;simp only[Ab];refine⟨_,wI _,pL _,⟨_,_,_,rfl⟩,λ_=>⟨by simp,.inr ⟨b,rfl,?_⟩⟩⟩;simp
  .refine zE (grownCap w (l.length+1) (o.cap-pre.length) el) (by simpa using xX (o.cap-pre.length) el) (by simpa using zA (o.cap-pre.length) el (by simp only[maxLen]at hmx⊢;omega)) ?_;rw[hxv];exact rW (P:=P) w T ty el inf z hu hi hz ⟨b,pre.length,none⟩ l.length (o.cap-pre.length) (l.map (Value.int .i64)) (by rw[<- ue];simp) (λj u hj=>by
    rw[pB,pH]at hj;obtain⟨z0,hz0,rfl⟩:=hj;obtain⟨u,e1,e2⟩:=uK (pre.length+j) (eI z0) (by rw[pB,pN (by omega),Nat.add_sub_cancel_left,hz0];rfl) 0 _ rfl;simp only[Ab]at e2;rw[Ce,rj w b _ cur _ _ uO];rw[ri,qo]at e1;rw[e1,e2]) ⟨bq,0,none⟩ 1 oq.cap [Value.int .i64 v] hnl vv (by omega) (by omega) (rh (by omega) hb48)
variable {α : Type} {enc : α -> List AV} {pr m : List α} {u : α} {j : Int} {kk : IntKind} {size : Nat} {s : St}
theorem ln (he:DB P T=some ⟨el,size,bytes,zz⟩)(hx:s.ev x=.own id g m.length)(hy:s.ev y=.int kk j)(hr:s.st[id]?=some ⟨g,el,size,(pr++m).map enc⟩)(hg:Sh.get m j=some u):
  AQ P s (.indexAddr T x y) (.ptr id g (pr.length+j.toNat) 0):=λK hk=>by
 show It P s.st T (s.ev x) (s.ev y) K;rw[hx,hy];exact Ak _ he ⟨(Sh.get_some hg).1,(Sh.get_some hg).2.2,Ak _ hr ⟨rfl,rfl,by simpa using hk⟩⟩
theorem kS (hg:Sh.get m j=some u):((pr++m).map enc)[pr.length+j.toNat]?=some (enc u):=by
 rw[pB,pN (by omega),Nat.add_sub_cancel_left,(Sh.get_some hg).2.1];rfl
theorem lB {lo:Operand}{z0:Int}(he:DB P T=some ⟨el,1,bytes,zz⟩)(hx:St.ev ⟨n,e,st⟩ x=.own id g (z0::l).length)(yR:St.ev ⟨n,e,st⟩ lo=.int kk 1)(hr:st[id]?=some ⟨g,el,1,(pre++z0::l).map eI⟩)
  (hk :∀vM:List Int,AO P k ops Q (ds++[some t]) r ⟨n,DQ e t (.own id (g+1) l.length),st.set id ⟨g+1,el,1,(vM++l).map eI⟩⟩):AO P k ops Q ds (⟨some t,.slice T x (some lo) none none,ty,p,ed,none⟩::r) ⟨n,e,st⟩:=by
 refine ft (C:=λst' w=>∃vM:List Int,st'=st.set id ⟨g+1,el,1,(vM++l).map eI⟩/\w=.own id (g+1) l.length) rfl (λF os a w hrel=>?_) (λst' w hC=>?_)
 case refine_2=>obtain⟨vM,rfl,rfl⟩:=hC;exact hk vM
 obtain⟨inf,z,hu,hi,hz,wb,uz,ue,hby,hzz,vS⟩:=HP he;dsimp only at hu hi wb uz ue hby hzz vS;have h1:=hrel.ev x;rw[hx]at h1;simp only[Ab]at h1;obtain⟨o,ho,_,_,h1⟩:=h1;obtain⟨o',uw,hor⟩:=hrel.row hr;rw[ho]at uw;cases uw;have tz:=hrel.rows id o ho;have wQ:o.row.xs=(pre++z0::l).map eI:=by rw[hor]
 have E8:o.row.size=1:=by rw[hor]
 have helm:o.row.elem=el:=by rw[hor]
 have wc:o.row.gen=g:=by rw[hor]
 obtain⟨_,h1⟩:=h1 wc;rw[wQ,E8]at h1;simp only[pR,pU,Nat.add_sub_cancel,ri]at h1;have h2:=hrel.ev lo;rw[yR]at h2;simp only[Ab]at h2;have wI:∀o':Own,(os.set id o')[id]?=some o':=λo'=>pO (pA.1 ho).1;obtain⟨b,hb,hxv⟩ :∃b,o.GA=some b/\a.eval x=.slice (some ⟨b,pre.length,none⟩) (z0::l).length (o.cap-pre.length):=by
  rcases h1 with ⟨hb,_⟩|h
  .have:=(tz.none hb).1;rw[wQ]at this;simp at this
  .exact h
 obtain⟨hF,cur,uO,vq,hle,hmx,uK⟩:=tz.some b hb;rw[wQ,E8]at uK;rw[E8,ri]at vq;rw[wQ,pR,pU,po]at hle;rw[helm]at uO;have ht:=Vu uK;have uP:=Mu (P:=P) (w:=w) hu hi (some ⟨b,pre.length,none⟩) (z0::l).length (o.cap-pre.length) 1 (z0::l).length (some (.int kk 1)) none (.inr ⟨kk,rfl⟩) (.inl ⟨rfl,rfl⟩) (by simp) (by simp;omega);have hex:∀zv,(Instr.sliceAt T (.slice (some ⟨b,pre.length,none⟩) (z0::l).length (o.cap-pre.length)) (some (.int kk 1)) none none).run P w=.ok zv w->(execOp a.eval ⟨some t,.slice T x (some lo) none none,ty,p,ed,none⟩).run P w=.ok (.value zv) w:=λzv hr=>by
  simp only[execOp,qG,qV,qF,sb,hxv,h2];rw[hr];rfl
 by_cases hc1:o.cap-pre.length=1
 .have hl0:l=[]:=by
   have:l.length=0:=by omega
   simpa using this
  subst hl0;rw[pI hc1]at uP;have hT:=hrel.LM (k:=k) (o':=⟨⟨g+1,el,1,([]++[]).map eI⟩,none,0,o.more⟩) ho (w':=w) (HA.refl _ _) (by simp[wc]) (by simp[E8]) (λe=>by simp[wc]at e) (λc hc=>.inl (hc.elim (λhc=>by cases hc) .inr)) (λ_=>
   ⟨Nat.one_pos,by simp,by simp,by simp,λc hc=>⟨(tz.mo c hc).1,(tz.mo c hc).2.1,by simp⟩,EJ (by simp)⟩)
  refine⟨_,_,⟨[],rfl,rfl⟩,_,_,F,_,hex _ uP,hT.1,?_,hT.2.1⟩;simp only[Ab];exact⟨_,wI _,pL _,⟨_,_,_,rfl⟩,λ_=>⟨by simp,.inl ⟨rfl,_,by rw[hc1];rfl⟩⟩⟩
 .rw[pJ hc1]at uP;have hT:=hrel.LM (k:=k) (o':=⟨⟨g+1,el,1,((pre++[z0])++l).map eI⟩,some b,o.cap,o.more⟩) ho (w':=w) (HA.refl _ _) (by simp[wc]) (by simp[E8]) (λe=>by simp[wc]at e) (λc hc=>.inl (hc.elim (λhc=>.inl (by rw[hb];exact hc)) .inr)) (λ_=>by
   refine SZ hF uO vq (by simp;omega) hmx (by rw[<- List.append_cons];exact ht) (λc hc=>?_);have hm:=tz.mo c hc;exact⟨hm.1,hm.2.1,λe=>hm.2.2 (by rw[hb,e])⟩)
  refine⟨_,_,⟨pre++[z0],rfl,rfl⟩,_,_,F,_,hex _ uP,hT.1,?_,hT.2.1⟩;simp only[Ab];refine⟨_,wI _,pL _,⟨_,_,_,rfl⟩,λ_=>⟨by simp;omega,.inr ⟨b,rfl,?_⟩⟩⟩;rw[<- ue];simp[Ce];omega
theorem jL {xT:TypeId}{xs:List (List AV)}(hs:DG P T=true)(hx:s.ev x=.own id g m.length)(hr:s.st[id]?=some ⟨g,xT,size,xs⟩):AQ P s (.call ⟨.builtin .len,#[x],#[T]⟩) (i64 (Sh.len m)):=λK hk=>by
 refine⟨hs,?_⟩;rw[hx];exact Ak _ hr ⟨rfl,hk⟩
theorem ld {lo:Operand}{q:List Int}(he:DB P T=some ⟨el,1,bytes,zz⟩)(hc:Sh.sl q 1 (Sh.len q)=some l)(hx:St.ev ⟨n,e,st⟩ x=.own id g q.length)(yR:St.ev ⟨n,e,st⟩ lo=.int kk 1)(hr:st[id]?=some ⟨g,el,1,(pre++q).map eI⟩)
  (hk :∀vM:List Int,AO P k ops Q (ds++[some t]) r ⟨n,DQ e t (.own id (g+1) l.length),st.set id ⟨g+1,el,1,(vM++l).map eI⟩⟩):AO P k ops Q ds (⟨some t,.slice T x (some lo) none none,ty,p,ed,none⟩::r) ⟨n,e,st⟩:=by
 cases q with
 |nil=>simp[Sh.sl,Sh.len]at hc
 |cons z0 q=>
  have h9:l=q:=by
   unfold Sh.sl at hc;split at hc
   .simp only[pC,Sh.len]at hc;rw[<- hc];simp
   .cases hc
  subst h9;exact lB he hx yR hr hk
theorem jy {stf:List Int->List Row}(he:DB P T=some ⟨el,1,bytes,zz⟩)(hx:St.ev ⟨n,e,st⟩ x=.own id g l.length)(hr:st[id]?=some ⟨g,el,1,(pre++l).map eI⟩)(hy:St.ev ⟨n,e,st⟩ y=.own q gq 1)(hq:st[q]?=some ⟨gq,elq,1,[v].map eI⟩)
  (ha:Sh.app l [v] bytes=some l') (uV :∀vM:List Int,st.set id ⟨g+1,el,1,(vM++l').map eI⟩=stf vM)
  (hk :∀vM:List Int,AO P k ops Q (ds++[some t]) r ⟨n,DQ e t (.own id (g+1) l'.length),stf vM⟩):AO P k ops Q ds (⟨some t,.call ⟨.builtin .append,#[x,y],#[T,T]⟩,ty,p,ed,none⟩::r) ⟨n,e,st⟩:=
 ka he hx hr hy hq ha λvM=>by rw[uV];exact hk vM
theorem iw {stf:List Int->List Row}{lo:Operand}{q:List Int}(he:DB P T=some ⟨el,1,bytes,zz⟩)(hc:Sh.sl q 1 (Sh.len q)=some l)(hx:St.ev ⟨n,e,st⟩ x=.own id g q.length)(yR:St.ev ⟨n,e,st⟩ lo=.int kk 1)(hr:st[id]?=some ⟨g,el,1,(pre++q).map eI⟩)
  (uV :∀vM:List Int,st.set id ⟨g+1,el,1,(vM++l).map eI⟩=stf vM)
  (hk :∀vM:List Int,AO P k ops Q (ds++[some t]) r ⟨n,DQ e t (.own id (g+1) l.length),stf vM⟩):AO P k ops Q ds (⟨some t,.slice T x (some lo) none none,ty,p,ed,none⟩::r) ⟨n,e,st⟩:=
 ld he hc hx yR hr λvM=>by rw[uV];exact hk vM
end
end
end Go.Abs
