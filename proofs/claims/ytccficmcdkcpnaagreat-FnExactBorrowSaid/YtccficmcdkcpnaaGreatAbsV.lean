import Derived.Test.YtccficmcdkcpnaaGreatAbsU
set_option linter.all false
namespace Go.Abs
open Go
theorem SV {P:Program}{o:Oper}{a:Act}{w:World}{next:Act->World->Prop}{Q Q':Exit->Act->World->Prop}(hp :∀c a w,Q (.panic c) a w->Q' (.panic c) a w)(ho:LetsOut Q->LetsOut Q')(h:o.wp P a w next Q):o.wp P a w next Q':=by
 unfold Oper.wp at *;generalize (execOp a.eval o).run P w=r at *;cases r with
 | ok n w'=>
  cases n<;>simp only[Oper.upon]at h⊢
  case value=>exact h
  case skip=>exact h
  case defer=>exact h
  case enter f args=>
   refine Calls.mono h λe w'' he=>?_;cases e with
   | returned u=>exact he
   | panicked c=>exact hp _ _ _ he
   | outgrown=>exact ho he
  case row=>exact h
 | halt x w'=>
  cases x<;>simp only[Oper.upon]at h⊢
  case panic u=>exact hp _ _ _ h
section
variable {P : Program} {k : Nat} {ops : Array Oper} {Q : Exit -> St -> Prop} {N f i : Nat} {rF : Array Bool} {s s' : St} {o : Oper}
def N5 (k:Nat)(Q:Exit->St->Prop)(F:Nat->Prop)(os:List Own)(w:World):Exit->Act->World->Prop:=OY k (λe s'=>e=.normal/\Q e s') F os w
def AX (P:Program)(k:Nat)(ops:Array Oper)(Q:Exit->St->Prop)(N f:Nat)(rF:Array Bool)(s:St):Prop:=
 s.n=N/\∀F0 os0 w0 F os a w,Rel F os s a w->Ext F0 os0 w0 F os w k->wpAny P .any ops (N5 k Q F0 os0 w0) f rF a w
def IS (P:Program)(k:Nat)(ops:Array Oper)(Q:Exit->St->Prop)(N f:Nat)(rF:Array Bool)(s:St)(i:Nat):Prop:=
 ∀F0 os0 w0 F os a w,Rel F os s a w->Ext F0 os0 w0 F os w k->wpOp P ops (N5 k Q F0 os0 w0) i (wpAny P .any ops (N5 k Q F0 os0 w0) f (rF.setIfInBounds i true)) a w
def de (P:Program)(k:Nat)(ops:Array Oper)(Q:Exit->St->Prop)(N f:Nat)(rF:Array Bool)(s:St):List Nat->Prop
 | []=>True
 | i::r=>IS P k ops Q N f rF s i/\de P k ops Q N f rF s r
theorem de.get:∀{l:List Nat},de P k ops Q N f rF s l->∀i∈l,IS P k ops Q N f rF s i
 | j::r,h,i,hi=>by
  rcases mr.1 hi with rfl|hi
  ·exact h.1
  ·exact de.get h.2 i hi
theorem AX.all (rs:List Nat)(hn:s.n=N)(hr:Region.ready .any ops rF=rs)(sB:rs≠[])(h:de P k ops Q N f rF s rs):AX P k ops Q N (f+1) rF s:=
 ⟨hn,λF0 os0 w0 F os a w ry he=>wpAny_all hr sB λi hi=>h.get i hi F0 os0 w0 F os a w ry he⟩
theorem DQ (hn:s.n=N)(hr:Region.ready .any ops rF=[])(h:Q .normal s):AX P k ops Q N f rF s:=
 ⟨hn,λ_ _ _ F os a w ry he=>wpAny_done hr ⟨s,F,os,⟨rfl,h⟩,ry,he⟩ f⟩
theorem AX.weaken (hw:Wk k s s')(h:AX P k ops Q N f rF s')(hn:s.n=N):AX P k ops Q N f rF s:=
 ⟨hn,λF0 os0 w0 F os a w ry he=>by
  obtain⟨F1,sC,h1,e1⟩:=hw F os a w ry;exact h.2 F0 os0 w0 F1 sC a w h1 (he.trans e1)⟩
def NT (o:Oper)(i:Nat):Bool:=match o.guard with
 | none=>true
 | some (j,_)=>decide (j<i+1)
theorem IS.of (ho:ops[i]?=some o)(hg:NT o i=true)(hd:(ops.toList.all λo=>Ce s.n o.dst)=true)
  (h:AO P k (ops.extract 0 (i+1)) (λe s'=>e=.normal/\AX P k ops Q N f (rF.setIfInBounds i true) s') ((ops.toList.take i).map (·.dst)) [o] s):IS P k ops Q N f rF s i:=by
 intro F0 os0 w0 F os a w ry he;have hi:i<ops.size:=(nN.1 ho).1;have hex:∀j,(ops.extract 0 (i+1))[j]?=if j<i+1 then ops[j]? else none:=λj=>by
  rw[Array.getElem?_extract];split<;>split<;>simp_all<;>omega
 have h1:=h (λj=>by
   have hlen:((ops.toList.take i).map (·.dst)).length=i:=by simp;omega
   rw[hlen,hex];cases j with
   | zero=>simp[ho]
   | succ j=>rw[mj (by omega)];simp) (λj d hj=>by
   simp only[mX,nJ]at hj;split at hj
   ·rw[hex,me (by omega)];simpa using hj
   ·cases hj) (λo' sA=>by
   obtain⟨j,hj⟩:=nC.1 sA;rw[nz,hex]at hj;split at hj
   ·exact ma.1 hd o' (mS (i:=j) (by simpa using hj))
   ·cases hj) F os a w ry (λe a' w'=>e=.normal/\wpAny P .any ops (N5 k Q F0 os0 w0) f (rF.setIfInBounds i true) a' w') (by
   rintro e a' w' ⟨s',F',os',⟨rfl,hax⟩,sw,he'⟩;exact⟨rfl,hax.2 F0 os0 w0 F' os' a' w' sw (he.trans he')⟩)
 have hy:Region.wanted o (yielded (ops.extract 0 (i+1)) a.tmps)=Region.wanted o (yielded ops a.tmps):=by
  unfold Region.wanted;unfold NT at hg;cases hgd:o.guard with
  | none=>rfl
  | some p=>
   obtain⟨j,want⟩:=p;rw[hgd]at hg;simp only[mv]at hg;simp only[yielded,hex,me hg]
 unfold wpList at h1;unfold wpOp;simp only[ho];rw[hy]at h1;split at h1
 ·rename_i hw;rw[me hw];rcases h1 with h1|⟨_,a1,w1,h1,_⟩
  ·refine .inl (Oper.wp_mono (λa' w' h'=>?_) (SV (λc a' w' h'=>?_) (λh'=>?_) h1))
   ·exact h'.2
   ·exact nomatch h'.1
   ·obtain⟨_,_,h2,_⟩:=h';exact nomatch h2
  ·exact nomatch h1
 ·rename_i hw;rw[mj hw];exact h1.2
def N1 (P:Program)(s:St)(o:Oper)(v:AV):Prop:=
 o.guard=none/\∀F os a w,Rel F os s a w->∃u,(∀w',(execOp a.eval o).run P w'=.ok (.value u) w')/\AU F w os v u
theorem LD (i:Nat){v:AV}(hn:s.n=N)(ho:ops[i]?=some o)(hs:Region.noSelect ops=true)(hf:Region.free .any ops rF i=true)(hr:(Region.ready .any ops rF).contains i=true)(hd:Ce s.n o.dst=true)(hh:N1 P s o v)
  (h:AX P k ops Q N f (rF.setIfInBounds i true) (s.put o.dst v)):AX P k ops Q N (f+1) rF s:=
 ⟨hn,λF0 os0 w0 F os a w ry he=>by
  obtain⟨hg,hh⟩:=hh;obtain⟨u,hu,hv⟩:=hh F os a w ry;refine wpAny_take ho hs hf hr (λc a w ⟨_,_,_,hp,_⟩=>nomatch hp.1) (.inl ⟨by unfold Region.wanted;rw[hg],hu⟩) ?_;exact h.2 F0 os0 w0 F os _ w (ry.put hd hv) he⟩
theorem Kv {id:Nat}(hm:P.follows .mixedOrders=true)(h:AX P k ops Q s.n ops.size (Array.replicate ops.size false) s):AW P k (.region id ops true) Q s:=by
 refine AW.mono (Q:=λe s'=>e=.normal/\Q e s') ?_ λe s' hq=>hq.2;intro F os a w hr;obtain⟨zE,he1⟩:=hr.drew (k:=k);refine wp_region_any hm ?_;exact h.2 F os w F os a w.drew zE he1
end
section
variable {P : Program} {n : Nat} {e : Nat -> AV} {st : List Row} {t : Tmp} {ty : TypeId} {ps : String} {ed : Array Edge} {x : Operand} {v : AV}
theorem NQ (h:St.ev ⟨n,e,st⟩ x=v):N1 P ⟨n,e,st⟩ ⟨some t,.move x,ty,ps,ed,none⟩ v:=
 ⟨rfl,λ_ _ a _ hr=>⟨a.eval x,λ_=>rfl,h▸hr.ev x⟩⟩
theorem eD (h:St.ev ⟨n,e,st⟩ x=v):N1 P ⟨n,e,st⟩ ⟨some t,.assign x,ty,ps,ed,none⟩ v:=
 ⟨rfl,λ_ _ a _ hr=>⟨a.eval x,λ_=>rfl,h▸hr.ev x⟩⟩
end
theorem CB {k n:Nat}{e:Nat->AV}{st st':List Row}(h:st=st'):Wk k ⟨n,e,st⟩ ⟨n,e,st'⟩:=h▸Wk.refl _ _
section
variable {P : Program} {k : Nat}
variable {ops : Array Oper} {Q : Exit -> St -> Prop} {ds : List (Option Tmp)} {r : List Oper} {n : Nat} {e : Nat -> AV} {st st' : List Row} {ty : TypeId} {ps : String} {ed : Array Edge} {d : Option Tmp} {v v' : AV} {gd : Option (Nat × Bool)}
variable {f : FuncId} {sx : Array Operand} {ts : Array TypeId} {args sO : List AV} {rowsP rows0 rows1 rows1' rows2 rows2' : List Row}
theorem U9 {tf:Tmp}{sM:List AV}(sel:List Nat)(hg:GO ds gd e)(zB:e tf=.fn f sM)(hb:Dy P f=true)(hc:BJ P f sO rows0 λr st=>r=v/\st=rows1++rows2)(ha:sx.toList.map (St.ev ⟨n,e,st⟩)++sM=args)(tX:sel.Nodup)(rh:sel.all (·<st.length)=true)
  (hp:B9 st sel=rowsP) (hs:SR sel rowsP rows0) (hf:args.map (Jg sel)=sO) (hlen:rows1.length=sel.length) (h1:UN sel st.length rows1 rows1') (h2:UN sel st.length rows2 rows2') (hv:YI sel st.length v=v') (vL:IH sel rows1' 0 st++rows2'=st')
  (hk:AO P k ops Q (ds++[d]) r (St.put ⟨n,e,st'⟩ d v')):AO P k ops Q ds (⟨d,.call ⟨.value (.tmp tf),sx,ts⟩,ty,ps,ed,gd⟩::r) ⟨n,e,st⟩:=by
 subst vL;subst ha;subst hv;subst hp;refine LN hg ?_;rw[Rq,show (St.mk n e st).env tf=e tf from rfl,zB];refine⟨hb,Pq λhle=>?_⟩;obtain⟨e1,e2⟩:=hs.spec (st0:=st) hle (λrow rK=>by
  obtain⟨i,_,hi⟩:=oM.1 rK;exact mS hi)
 refine Q0 sel hc tX (λi hi=>by simpa using ma.1 rh i hi) e1 e2 hf hlen (λrow rK=>by
  rcases nM.1 rK with h|h
  ·exact h1.leaf row h
  ·exact h2.leaf row h) λ_=>?_
 simp only[h1.spec,h2.spec];exact hk
end
theorem Cp {P:Program}{s:St}{x y:Operand}{t:TypeId}{kk:IntKind}{α:Type}{l:List α}{enc:α->List AV}{n:Int}{u:α}{el size bytes:Nat}{zz cs:List AV}(he:CH P t=some ⟨el,size,bytes,zz⟩)(hx:s.ev x=.sl (l.map enc))(hy:s.ev y=.int kk n)(hg:Sh.get l n=some u)(hq:enc u=cs)(hs:cs.length=size):
  AQ P s (.indexAddr t x y) (.Bz cs 0):=by subst hq;exact Bi he hx hy hg hs
theorem Wr {P:Program}{k:Nat}{c:Code}{Q:Exit->St->Prop}{s:St}(h :∀K:St->Prop,(∀s',Q .normal s'->K s')->AW P k c (Xe K Q) s):AW P k c Q s:=
 (h (λs'=>Q .normal s') λ_ h=>h).mono λe s' hq=>by cases e<;>exact hq
end Go.Abs
