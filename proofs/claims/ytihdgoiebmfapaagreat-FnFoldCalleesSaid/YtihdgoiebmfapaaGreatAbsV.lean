import Derived.Test.YtihdgoiebmfapaaGreatAbsU
set_option linter.all false
namespace Go.Abs
open Go
theorem Ot {P:Program}{o:Oper}{a:Act}{w:World}{next:Act->World->Prop}{Q Q':Exit->Act->World->Prop}(hp :∀c a w,Q (.panic c) a w->Q' (.panic c) a w)(ho:LetsOut Q->LetsOut Q')(h:o.wp P a w next Q):o.wp P a w next Q':=by
 unfold Oper.wp at *;generalize (execOp a.eval o).run P w=r at *;cases r with
 | ok n w'=>
  cases n<;>simp only[Oper.upon]at h⊢
  case value=>exact h
  case skip=>exact h
  case defer=>exact h
  case enter f args=>
   refine Calls.mono h λe xS he=>?_;cases e with
   | returned u=>exact he
   | panicked c=>exact hp _ _ _ he
   | outgrown=>exact ho he
  case row=>exact h
 | halt x w'=>
  cases x<;>simp only[Oper.upon]at h⊢
  case panic u=>exact hp _ _ _ h
section
variable {P : Program} {k : Nat} {ops : Array Oper} {Q : Exit -> St -> Prop} {N f i : Nat} {qW : Array Bool} {s s' : St} {o : Oper}
def Nc (k:Nat)(Q:Exit->St->Prop)(F:Nat->Prop)(os:List Own)(w:World):Exit->Act->World->Prop:=KN k (λe s'=>e=.normal/\Q e s') F os w
def AX (P:Program)(k:Nat)(ops:Array Oper)(Q:Exit->St->Prop)(N f:Nat)(qW:Array Bool)(s:St):Prop:=
 s.n=N/\∀F0 os0 w0 F os a w,Rel F os s a w->Ext F0 os0 w0 F os w k->wpAny P .any ops (Nc k Q F0 os0 w0) f qW a w
def En (P:Program)(k:Nat)(ops:Array Oper)(Q:Exit->St->Prop)(N f:Nat)(qW:Array Bool)(s:St)(i:Nat):Prop:=
 ∀F0 os0 w0 F os a w,Rel F os s a w->Ext F0 os0 w0 F os w k->wpOp P ops (Nc k Q F0 os0 w0) i (wpAny P .any ops (Nc k Q F0 os0 w0) f (qW.setIfInBounds i true)) a w
def de (P:Program)(k:Nat)(ops:Array Oper)(Q:Exit->St->Prop)(N f:Nat)(qW:Array Bool)(s:St):List Nat->Prop
 | []=>True
 | i::r=>En P k ops Q N f qW s i/\de P k ops Q N f qW s r
theorem de.get:∀{l:List Nat},de P k ops Q N f qW s l->∀i∈l,En P k ops Q N f qW s i
 | j::r,h,i,hi=>by
  rcases lk.1 hi with rfl|hi
  ·exact h.1
  ·exact de.get h.2 i hi
theorem CK (rs:List Nat)(hn:s.n=N)(hr:Region.ready .any ops qW=rs)(rE:rs≠[])(h:de P k ops Q N f qW s rs):AX P k ops Q N (f+1) qW s:=
 ⟨hn,λF0 os0 w0 F os a w hrel he=>wpAny_all hr rE λi hi=>h.get i hi F0 os0 w0 F os a w hrel he⟩
theorem Hr (hn:s.n=N)(hr:Region.ready .any ops qW=[])(h:Q .normal s):AX P k ops Q N f qW s:=
 ⟨hn,λ_ _ _ F os a w hrel he=>wpAny_done hr ⟨s,F,os,⟨rfl,h⟩,hrel,he⟩ f⟩
theorem Au (hw:Wk k s s')(h:AX P k ops Q N f qW s')(hn:s.n=N):AX P k ops Q N f qW s:=
 ⟨hn,λF0 os0 w0 F os a w hrel he=>by
  obtain⟨F1,rL,h1,e1⟩:=hw F os a w hrel;exact h.2 F0 os0 w0 F1 rL a w h1 (he.trans e1)⟩
def Nu (o:Oper)(i:Nat):Bool:=match o.guard with
 | none=>true
 | some (j,_)=>decide (j<i+1)
theorem En.of (ho:ops[i]?=some o)(hg:Nu o i=true)(hd:(ops.toList.all λo=>DH s.n o.dst)=true)
  (h:AO P k (ops.extract 0 (i+1)) (λe s'=>e=.normal/\AX P k ops Q N f (qW.setIfInBounds i true) s') ((ops.toList.take i).map (·.dst)) [o] s):En P k ops Q N f qW s i:=by
 intro F0 os0 w0 F os a w hrel he;have hi:i<ops.size:=(mO.1 ho).1;have hex:∀j,(ops.extract 0 (i+1))[j]?=if j<i+1 then ops[j]? else none:=λj=>by
  rw[Array.getElem?_extract];split<;>split<;>simp_all<;>omega
 have h1:=h (λj=>by
   have hlen:((ops.toList.take i).map (·.dst)).length=i:=by simp;omega
   rw[hlen,hex];cases j with
   | zero=>simp[ho]
   | succ j=>rw[la (by omega)];simp) (λj d hj=>by
   simp only[lW,mJ]at hj;split at hj
   ·rw[hex,ld (by omega)];simpa using hj
   ·cases hj) (λo' rH=>by
   obtain⟨j,hj⟩:=lv.1 rH;rw[nk,hex]at hj;split at hj
   ·exact lh.1 hd o' (lT (i:=j) (by simpa using hj))
   ·cases hj) F os a w hrel (λe a' w'=>e=.normal/\wpAny P .any ops (Nc k Q F0 os0 w0) f (qW.setIfInBounds i true) a' w') (by
   rintro e a' w' ⟨s',F',os',⟨rfl,hax⟩,ry,he'⟩;exact⟨rfl,hax.2 F0 os0 w0 F' os' a' w' ry (he.trans he')⟩)
 have hy:Region.wanted o (yielded (ops.extract 0 (i+1)) a.tmps)=Region.wanted o (yielded ops a.tmps):=by
  unfold Region.wanted;unfold Nu at hg;cases hgd:o.guard with
  | none=>rfl
  | some p=>
   obtain⟨j,want⟩:=p;rw[hgd]at hg;simp only[lq]at hg;simp only[yielded,hex,ld hg]
 unfold wpList at h1;unfold wpOp;simp only[ho];rw[hy]at h1;split at h1
 ·rename_i hw;rw[ld hw];rcases h1 with h1|⟨_,a1,w1,h1,_⟩
  ·refine .inl (Oper.wp_mono (λa' w' h'=>?_) (Ot (λc a' w' h'=>?_) (λh'=>?_) h1))
   ·exact h'.2
   ·exact nomatch h'.1
   ·obtain⟨_,_,h2,_⟩:=h';exact nomatch h2
  ·exact nomatch h1
 ·rename_i hw;rw[la hw];exact h1.2
def Oe (P:Program)(s:St)(o:Oper)(v:AV):Prop:=
 o.guard=none/\∀F os a w,Rel F os s a w->∃u,(∀w',(execOp a.eval o).run P w'=.ok (.value u) w')/\Ae F w os v u
theorem LZ (i:Nat){v:AV}(hn:s.n=N)(ho:ops[i]?=some o)(hs:Region.noSelect ops=true)(hf:Region.free .any ops qW i=true)(hr:(Region.ready .any ops qW).contains i=true)(hd:DH s.n o.dst=true)(hh:Oe P s o v)
  (h:AX P k ops Q N f (qW.setIfInBounds i true) (s.put o.dst v)):AX P k ops Q N (f+1) qW s:=
 ⟨hn,λF0 os0 w0 F os a w hrel he=>by
  obtain⟨hg,hh⟩:=hh;obtain⟨u,hu,hv⟩:=hh F os a w hrel;refine wpAny_take ho hs hf hr (λc a w ⟨_,_,_,hp,_⟩=>nomatch hp.1) (.inl ⟨by unfold Region.wanted;rw[hg],hu⟩) ?_;exact h.2 F0 os0 w0 F os _ w (hrel.put hd hv) he⟩
theorem IQ {id:Nat}(hm:P.follows .mixedOrders=true)(h:AX P k ops Q s.n ops.size (Array.replicate ops.size false) s):AW P k (.region id ops true) Q s:=by
 refine AW.mono (Q:=λe s'=>e=.normal/\Q e s') ?_ λe s' hq=>hq.2;intro F os a w hr;obtain⟨wy,he1⟩:=hr.drew (k:=k);refine pV hm ?_;exact h.2 F os w F os a w.drew wy he1
end
section
variable {P : Program} {n : Nat} {e : Nat -> AV} {st : List Row} {t : Tmp} {ty : TypeId} {ps : String} {ed : Array Edge} {x : Operand} {v : AV}
theorem Iq (h:St.ev ⟨n,e,st⟩ x=v):Oe P ⟨n,e,st⟩ ⟨some t,.move x,ty,ps,ed,none⟩ v:=
 ⟨rfl,λ_ _ a _ hr=>⟨a.eval x,λ_=>rfl,h▸hr.ev x⟩⟩
theorem dZ (h:St.ev ⟨n,e,st⟩ x=v):Oe P ⟨n,e,st⟩ ⟨some t,.assign x,ty,ps,ed,none⟩ v:=
 ⟨rfl,λ_ _ a _ hr=>⟨a.eval x,λ_=>rfl,h▸hr.ev x⟩⟩
end
theorem Fc {k n:Nat}{e:Nat->AV}{st st':List Row}(h:st=st'):Wk k ⟨n,e,st⟩ ⟨n,e,st'⟩:=h▸Wk.refl _ _
section
variable {P : Program} {k : Nat}
variable {ops : Array Oper} {Q : Exit -> St -> Prop} {ds : List (Option Tmp)} {r : List Oper} {n : Nat} {e : Nat -> AV} {st st' : List Row} {ty : TypeId} {ps : String} {ed : Array Edge} {d : Option Tmp} {v v' : AV} {gd : Option (Nat × Bool)}
variable {f : FuncId} {ri : Array Operand} {ts : Array TypeId} {args rJ : List AV} {rowsP rows0 rows1 rows1' rows2 rows2' : List Row}
theorem Wc {tf:Tmp}{rT:List AV}(sel:List Nat)(hg:GO ds gd e)(hfn:e tf=.fn f rT)(hb:Dq P f=true)(hc:Ab P f rJ rows0 λr st=>r=v/\st=rows1++rows2)(ha:ri.toList.map (St.ev ⟨n,e,st⟩)++rT=args)(sC:sel.Nodup)(qw:sel.all (·<st.length)=true)
  (hp:Cc st sel=rowsP) (hs:SR sel rowsP rows0) (hf:args.map (KT sel)=rJ) (hlen:rows1.length=sel.length) (h1:UN sel st.length rows1 rows1') (h2:UN sel st.length rows2 rows2') (hv:T1 sel st.length v=v') (sV:GC sel rows1' 0 st++rows2'=st')
  (hk:AO P k ops Q (ds++[d]) r (St.put ⟨n,e,st'⟩ d v')):AO P k ops Q ds (⟨d,.call ⟨.value (.tmp tf),ri,ts⟩,ty,ps,ed,gd⟩::r) ⟨n,e,st⟩:=by
 subst sV;subst ha;subst hv;subst hp;refine Mh hg ?_;rw[YS,show (St.mk n e st).env tf=e tf from rfl,hfn];refine⟨hb,Kl λhle=>?_⟩;obtain⟨e1,e2⟩:=hs.spec (st0:=st) hle (λrow qc=>by
  obtain⟨i,_,hi⟩:=mu.1 qc;exact lT hi)
 refine LN sel hc sC (λi hi=>by simpa using lh.1 qw i hi) e1 e2 hf hlen (λrow qc=>by
  rcases lz.1 qc with h|h
  ·exact h1.leaf row h
  ·exact h2.leaf row h) λ_=>?_
 simp only[h1.spec,h2.spec];exact hk
end
theorem By {P:Program}{s:St}{x y:Operand}{t:TypeId}{kk:IntKind}{α:Type}{l:List α}{enc:α->List AV}{n:Int}{u:α}{el size bytes:Nat}{zz cs:List AV}(he:Ds P t=some ⟨el,size,bytes,zz⟩)(hx:s.ev x=.sl (l.map enc))(hy:s.ev y=.int kk n)(hg:Sh.get l n=some u)(hq:enc u=cs)(hs:cs.length=size):
  AQ P s (.indexAddr t x y) (.Bn cs 0):=by subst hq;exact Ch he hx hy hg hs
theorem OC {α:Type}{l:List α}{enc:α->List AV}{n:Int}{u:α}{cs:List AV}(h:Sh.get l n=some u)(he:enc u=cs):(l.map enc)[n.toNat]?=some cs:=by subst he;exact CW h
theorem Xt {P:Program}{k:Nat}{c:Code}{Q:Exit->St->Prop}{s:St}(h :∀K:St->Prop,(∀s',Q .normal s'->K s')->AW P k c (Kk K Q) s):AW P k c Q s:=
 (h (λs'=>Q .normal s') λ_ h=>h).mono λe s' hq=>by cases e<;>exact hq
end Go.Abs
