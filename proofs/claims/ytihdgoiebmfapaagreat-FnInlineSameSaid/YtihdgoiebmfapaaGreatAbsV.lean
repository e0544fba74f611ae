import Derived.Test.YtihdgoiebmfapaaGreatAbsU
set_option linter.all false
namespace Go.Abs
open Go
theorem PG {P:Program}{o:Oper}{a:Act}{w:World}{next:Act->World->Prop}{Q Q':Exit->Act->World->Prop}(hp :∀c a w,Q (.panic c) a w->Q' (.panic c) a w)(ho:LetsOut Q->LetsOut Q')(h:o.wp P a w next Q):o.wp P a w next Q':=by
 unfold Oper.wp at *;generalize (execOp a.eval o).run P w=r at *;cases r with
 |ok n w'=>
  cases n<;>simp only[Oper.upon]at h⊢
  case value=>exact h
  case skip=>exact h
  case defer=>exact h
  case enter f args=>
   refine Calls.mono h λe w'' he=>?_;cases e with
   |returned u=>exact he
   |panicked c=>exact hp _ _ _ he
   |outgrown=>exact ho he
  case row=>exact h
 |halt x w'=>
  cases x<;>simp only[Oper.upon]at h⊢
  case panic u=>exact hp _ _ _ h
section
variable {P : Program} {k : Nat} {ops : Array Oper} {Q : Exit -> St -> Prop} {N f i : Nat} {tm : Array Bool} {s s' : St} {o : Oper}
def OS (k:Nat)(Q:Exit->St->Prop)(F:Nat->Prop)(os:List Own)(w:World):Exit->Act->World->Prop:=K0 k (λe s'=>e=.normal/\Q e s') F os w
def AX (P:Program)(k:Nat)(ops:Array Oper)(Q:Exit->St->Prop)(N f:Nat)(tm:Array Bool)(s:St):Prop:=
 s.n=N/\∀F0 os0 w0 F os a w,Rel F os s a w->Ext F0 os0 w0 F os w k->wpAny P .any ops (OS k Q F0 os0 w0) f tm a w
def Jp (P:Program)(k:Nat)(ops:Array Oper)(Q:Exit->St->Prop)(N f:Nat)(tm:Array Bool)(s:St)(i:Nat):Prop:=
 ∀F0 os0 w0 F os a w,Rel F os s a w->Ext F0 os0 w0 F os w k->wpOp P ops (OS k Q F0 os0 w0) i (wpAny P .any ops (OS k Q F0 os0 w0) f (tm.setIfInBounds i true)) a w
def iG (P:Program)(k:Nat)(ops:Array Oper)(Q:Exit->St->Prop)(N f:Nat)(tm:Array Bool)(s:St):List Nat->Prop
 | []=>True
 |i::r=>Jp P k ops Q N f tm s i/\iG P k ops Q N f tm s r
theorem iG.get:∀{l:List Nat},iG P k ops Q N f tm s l->∀i∈l,Jp P k ops Q N f tm s i
 |j::r,h,i,hi=>by
  rcases pK.1 hi with rfl|hi
  .exact h.1
  .exact iG.get h.2 i hi
theorem AX.all (rs:List Nat)(hn:s.n=N)(hr:Region.ready .any ops tm=rs)(uq:rs≠[])(h:iG P k ops Q N f tm s rs):AX P k ops Q N (f+1) tm s:=
 ⟨hn,λF0 os0 w0 F os a w hrel he=>wpAny_all hr uq λi hi=>h.get i hi F0 os0 w0 F os a w hrel he⟩
theorem Gi (hn:s.n=N)(hr:Region.ready .any ops tm=[])(h:Q .normal s):AX P k ops Q N f tm s:=
 ⟨hn,λ_ _ _ F os a w hrel he=>wpAny_done hr ⟨s,F,os,⟨rfl,h⟩,hrel,he⟩ f⟩
theorem BK (hw:Wk k s s')(h:AX P k ops Q N f tm s')(hn:s.n=N):AX P k ops Q N f tm s:=
 ⟨hn,λF0 os0 w0 F os a w hrel he=>by
  obtain⟨F1,vD,h1,e1⟩:=hw F os a w hrel;exact h.2 F0 os0 w0 F1 vD a w h1 (he.trans e1)⟩
def Ou (o:Oper)(i:Nat):Bool:=match o.guard with
 |none=>true
 |some (j,_)=>decide (j<i+1)
theorem Jp.of (ho:ops[i]?=some o)(hg:Ou o i=true)(hd:(ops.toList.all λo=>Cy s.n o.dst)=true)
  (h:AO P k (ops.extract 0 (i+1)) (λe s'=>e=.normal/\AX P k ops Q N f (tm.setIfInBounds i true) s') ((ops.toList.take i).map (·.dst)) [o] s):Jp P k ops Q N f tm s i:=by
 intro F0 os0 w0 F os a w hrel he;have hi:i<ops.size:=(px.1 ho).1;have hex:∀j,(ops.extract 0 (i+1))[j]?=if j<i+1 then ops[j]? else none:=λj=>by
  rw[Array.getElem?_extract];split<;>split<;>simp_all<;>omega
 have h1:=h (λj=>by
   have hlen:((ops.toList.take i).map (·.dst)).length=i:=by simp;omega
   rw[hlen,hex];cases j with
   |zero=>simp[ho]
   |succ j=>rw[pJ (by omega)];simp) (λj d hj=>by
   simp only[pB,pn]at hj;split at hj
   .rw[hex,pI (by omega)];simpa using hj
   .cases hj) (λo' uw=>by
   obtain⟨j,hj⟩:=pY.1 uw;rw[qw,hex]at hj;split at hj
   .exact pG.1 hd o' (ov (i:=j) (by simpa using hj))
   .cases hj) F os a w hrel (λe a' w'=>e=.normal/\wpAny P .any ops (OS k Q F0 os0 w0) f (tm.setIfInBounds i true) a' w') (by
   rintro e a' w' ⟨s',F',os',⟨rfl,hax⟩,vg,he'⟩;exact⟨rfl,hax.2 F0 os0 w0 F' os' a' w' vg (he.trans he')⟩)
 have hy:Region.wanted o (yielded (ops.extract 0 (i+1)) a.tmps)=Region.wanted o (yielded ops a.tmps):=by
  unfold Region.wanted;unfold Ou at hg;cases hgd:o.guard with
  |none=>rfl
  |some p=>
   obtain⟨j,want⟩:=p;rw[hgd]at hg;simp only[pP]at hg;simp only[yielded,hex,pI hg]
 unfold wpList at h1;unfold wpOp;simp only[ho];rw[hy]at h1;split at h1
 .rename_i hw;rw[pI hw];rcases h1 with h1|⟨_,a1,w1,h1,_⟩
  .refine .inl (Oper.wp_mono (λa' w' h'=>?_) (PG (λc a' w' h'=>?_) (λh'=>?_) h1))
   .exact h'.2
   .exact nomatch h'.1
   .obtain⟨_,_,h2,_⟩:=h';exact nomatch h2
  .exact nomatch h1
 .rename_i hw;rw[pJ hw];exact h1.2
def Pd (P:Program)(s:St)(o:Oper)(v:AV):Prop:=
 o.guard=none/\∀F os a w,Rel F os s a w->∃u,(∀w',(execOp a.eval o).run P w'=.ok (.value u) w')/\Ab F w os v u
theorem H5 (i:Nat){v:AV}(hn:s.n=N)(ho:ops[i]?=some o)(hs:Region.noSelect ops=true)(hf:Region.free .any ops tm i=true)(hr:(Region.ready .any ops tm).contains i=true)(hd:Cy s.n o.dst=true)(hh:Pd P s o v)
  (h:AX P k ops Q N f (tm.setIfInBounds i true) (s.put o.dst v)):AX P k ops Q N (f+1) tm s:=
 ⟨hn,λF0 os0 w0 F os a w hrel he=>by
  obtain⟨hg,hh⟩:=hh;obtain⟨u,hu,hv⟩:=hh F os a w hrel;refine wpAny_take ho hs hf hr (λc a w ⟨_,_,_,hp,_⟩=>nomatch hp.1) (.inl ⟨by unfold Region.wanted;rw[hg],hu⟩) ?_;exact h.2 F0 os0 w0 F os _ w (hrel.put hd hv) he⟩
theorem Hw {id:Nat}(hm:P.follows .mixedOrders=true)(h:AX P k ops Q s.n ops.size (Array.replicate ops.size false) s):AW P k (.region id ops true) Q s:=by
 refine AW.mono (Q:=λe s'=>e=.normal/\Q e s') ?_ λe s' hq=>hq.2;intro F os a w hr;obtain⟨hr1,he1⟩:=hr.drew (k:=k);refine tA hm ?_;exact h.2 F os w F os a w.drew hr1 he1
end
section
variable {P : Program} {n : Nat} {e : Nat -> AV} {st : List Row} {t : Tmp} {ty : TypeId} {ps : String} {ed : Array Edge} {x : Operand} {v : AV}
theorem Ia (h:St.ev ⟨n,e,st⟩ x=v):Pd P ⟨n,e,st⟩ ⟨some t,.move x,ty,ps,ed,none⟩ v:=
 ⟨rfl,λ_ _ a _ hr=>⟨a.eval x,λ_=>rfl,h▸hr.ev x⟩⟩
theorem RM (h:St.ev ⟨n,e,st⟩ x=v):Pd P ⟨n,e,st⟩ ⟨some t,.assign x,ty,ps,ed,none⟩ v:=
 ⟨rfl,λ_ _ a _ hr=>⟨a.eval x,λ_=>rfl,h▸hr.ev x⟩⟩
end
theorem GB {k n:Nat}{e:Nat->AV}{st st':List Row}(h:st=st'):Wk k ⟨n,e,st⟩ ⟨n,e,st'⟩:=h▸Wk.refl _ _
section
variable {P : Program} {k : Nat}
variable {ops : Array Oper} {Q : Exit -> St -> Prop} {ds : List (Option Tmp)} {r : List Oper} {n : Nat} {e : Nat -> AV} {st st' : List Row} {ty : TypeId} {ps : String} {ed : Array Edge} {d : Option Tmp} {v v' : AV} {gd : Option (Nat × Bool)}
variable {f : FuncId} {vI : Array Operand} {ts : Array TypeId} {args uf : List AV} {rowsP rows0 rows1 rows1' rows2 rows2' : List Row}
theorem S3 {tf:Tmp}{vO:List AV}(sel:List Nat)(hg:GO ds gd e)(hfn:e tf=.fn f vO)(hb:Cq P f=true)(hc:BJ P f uf rows0 λr st=>r=v/\st=rows1++rows2)(ha:vI.toList.map (St.ev ⟨n,e,st⟩)++vO=args)(vu:sel.Nodup)(uU:sel.all (·<st.length)=true)
  (hp:CE st sel=rowsP) (hs:SR sel rowsP rows0) (hf:args.map (Jn sel)=uf) (hlen:rows1.length=sel.length) (h1:UN sel st.length rows1 rows1') (h2:UN sel st.length rows2 rows2') (hv:Q0 sel st.length v=v') (wU:FX sel rows1' 0 st++rows2'=st')
  (hk:AO P k ops Q (ds++[d]) r (St.put ⟨n,e,st'⟩ d v')):AO P k ops Q ds (⟨d,.call ⟨.value (.tmp tf),vI,ts⟩,ty,ps,ed,gd⟩::r) ⟨n,e,st⟩:=by
 subst wU;subst ha;subst hv;subst hp;refine NO hg ?_;rw[aE,show (St.mk n e st).env tf=e tf from rfl,hfn];refine⟨hb,Ld λhle=>?_⟩;obtain⟨e1,e2⟩:=hs.spec (st0:=st) hle (λrow tv=>by
  obtain⟨i,_,hi⟩:=qg.1 tv;exact ov hi)
 refine L8 sel hc vu (λi hi=>by simpa using pG.1 uU i hi) e1 e2 hf hlen (λrow tv=>by
  rcases pX.1 tv with h|h
  .exact h1.leaf row h
  .exact h2.leaf row h) λ_=>?_
 simp only[h1.spec,h2.spec];exact hk
end
theorem Cb {P:Program}{s:St}{x y:Operand}{t:TypeId}{kk:IntKind}{α:Type}{l:List α}{enc:α->List AV}{n:Int}{u:α}{el size bytes:Nat}{zz cs:List AV}(he:DB P t=some ⟨el,size,bytes,zz⟩)(hx:s.ev x=.sl (l.map enc))(hy:s.ev y=.int kk n)(hg:Sh.get l n=some u)(hq:enc u=cs)(hs:cs.length=size):
  AQ P s (.indexAddr t x y) (.C9 cs 0):=by subst hq;exact CZ he hx hy hg hs
theorem iY {α:Type}{l:List α}{enc:α->List AV}{n:Int}{u:α}{cs:List AV}(h:Sh.get l n=some u)(he:enc u=cs):(l.map enc)[n.toNat]?=some cs:=by subst he;exact CQ h
theorem RK {P:Program}{k:Nat}{c:Code}{Q:Exit->St->Prop}{s:St}(h :∀K:St->Prop,(∀s',Q .normal s'->K s')->AW P k c (LQ K Q) s):AW P k c Q s:=
 (h (λs'=>Q .normal s') λ_ h=>h).mono λe s' hq=>by cases e<;>exact hq
end Go.Abs
