import Derived.Test.YtgiajkaabnbieaaGreatAbsU
set_option linter.all false
namespace Go.Abs
open Go
theorem TG {P:Program}{o:Oper}{a:Act}{w:World}{next:Act->World->Prop}{Q Q':Exit->Act->World->Prop}(hp :∀c a w,Q (.panic c) a w->Q' (.panic c) a w)(ho:LetsOut Q->LetsOut Q')(h:o.wp P a w next Q):o.wp P a w next Q':=by
 unfold Oper.wp at *;generalize (execOp a.eval o).run P w=r at *;cases r with
 | ok n w'=>
  cases n<;>simp only[Oper.upon]at h⊢
  case value=>exact h
  case skip=>exact h
  case defer=>exact h
  case enter f args=>
   refine Calls.mono h λe w'' he=>?_;cases e with
   | returned u=>exact he
   | panicked c=>exact hp _ _ _ he
   | outgrown=>exact ho he
  case row=>exact h
 | halt x w'=>
  cases x<;>simp only[Oper.upon]at h⊢
  case panic u=>exact hp _ _ _ h
section
variable {P : Program} {k : Nat} {ops : Array Oper} {Q : Exit -> St -> Prop} {N f i : Nat} {qi : Array Bool} {s s' : St} {o : Oper}
def PJ (k:Nat)(Q:Exit->St->Prop)(F:Nat->Prop)(os:List Own)(w:World):Exit->Act->World->Prop:=PT k (λe s'=>e=.normal/\Q e s') F os w
def AX (P:Program)(k:Nat)(ops:Array Oper)(Q:Exit->St->Prop)(N f:Nat)(qi:Array Bool)(s:St):Prop:=
 s.n=N/\∀F0 os0 w0 F os a w,Rel F os s a w->Ext F0 os0 w0 F os w k->wpAny P .any ops (PJ k Q F0 os0 w0) f qi a w
def JZ (P:Program)(k:Nat)(ops:Array Oper)(Q:Exit->St->Prop)(N f:Nat)(qi:Array Bool)(s:St)(i:Nat):Prop:=
 ∀F0 os0 w0 F os a w,Rel F os s a w->Ext F0 os0 w0 F os w k->wpOp P ops (PJ k Q F0 os0 w0) i (wpAny P .any ops (PJ k Q F0 os0 w0) f (qi.setIfInBounds i true)) a w
def dF (P:Program)(k:Nat)(ops:Array Oper)(Q:Exit->St->Prop)(N f:Nat)(qi:Array Bool)(s:St):List Nat->Prop
 | []=>True
 | i::r=>JZ P k ops Q N f qi s i/\dF P k ops Q N f qi s r
theorem dF.get:∀{l:List Nat},dF P k ops Q N f qi s l->∀i∈l,JZ P k ops Q N f qi s i
 | j::r,h,i,hi=>by
  rcases mc.1 hi with rfl|hi
  ·exact h.1
  ·exact dF.get h.2 i hi
theorem AX.all (rs:List Nat)(hn:s.n=N)(hr:Region.ready .any ops qi=rs)(rV:rs≠[])(h:dF P k ops Q N f qi s rs):AX P k ops Q N (f+1) qi s:=
 ⟨hn,λF0 os0 w0 F os a w rT he=>wpAny_all hr rV λi hi=>h.get i hi F0 os0 w0 F os a w rT he⟩
theorem GD (hn:s.n=N)(hr:Region.ready .any ops qi=[])(h:Q .normal s):AX P k ops Q N f qi s:=
 ⟨hn,λ_ _ _ F os a w rT he=>wpAny_done hr ⟨s,F,os,⟨rfl,h⟩,rT,he⟩ f⟩
theorem S6 (hw:Wk k s s')(h:AX P k ops Q N f qi s')(hn:s.n=N):AX P k ops Q N f qi s:=
 ⟨hn,λF0 os0 w0 F os a w rT he=>by
  obtain⟨F1,rj,h1,e1⟩:=hw F os a w rT;exact h.2 F0 os0 w0 F1 rj a w h1 (he.trans e1)⟩
def Oe (o:Oper)(i:Nat):Bool:=match o.guard with
 | none=>true
 | some (j,_)=>decide (j<i+1)
theorem JZ.of (ho:ops[i]?=some o)(hg:Oe o i=true)(hd:(ops.toList.all λo=>DY s.n o.dst)=true)
  (h:AO P k (ops.extract 0 (i+1)) (λe s'=>e=.normal/\AX P k ops Q N f (qi.setIfInBounds i true) s') ((ops.toList.take i).map (·.dst)) [o] s):JZ P k ops Q N f qi s i:=by
 intro F0 os0 w0 F os a w rT he;have hi:i<ops.size:=(mq.1 ho).1;have hex:∀j,(ops.extract 0 (i+1))[j]?=if j<i+1 then ops[j]? else none:=λj=>by
  rw[Array.getElem?_extract];split<;>split<;>simp_all<;>omega
 have h1:=h (λj=>by
   have hlen:((ops.toList.take i).map (·.dst)).length=i:=by simp;omega
   rw[hlen,hex];cases j with
   | zero=>simp[ho]
   | succ j=>rw[mJ (by omega)];simp) (λj d hj=>by
   simp only[mG,mi]at hj;split at hj
   ·rw[hex,mI (by omega)];simpa using hj
   ·cases hj) (λo' rW=>by
   obtain⟨j,hj⟩:=ma.1 rW;rw[na,hex]at hj;split at hj
   ·exact mL.1 hd o' (mB (i:=j) (by simpa using hj))
   ·cases hj) F os a w rT (λe a' w'=>e=.normal/\wpAny P .any ops (PJ k Q F0 os0 w0) f (qi.setIfInBounds i true) a' w') (by
   rintro e a' w' ⟨s',F',os',⟨rfl,hax⟩,sx,he'⟩;exact⟨rfl,hax.2 F0 os0 w0 F' os' a' w' sx (he.trans he')⟩)
 have hy:Region.wanted o (yielded (ops.extract 0 (i+1)) a.tmps)=Region.wanted o (yielded ops a.tmps):=by
  unfold Region.wanted;unfold Oe at hg;cases za:o.guard with
  | none=>rfl
  | some p=>
   obtain⟨j,want⟩:=p;rw[za]at hg;simp only[mX]at hg;simp only[yielded,hex,mI hg]
 unfold wpList at h1;unfold wpOp;simp only[ho];rw[hy]at h1;split at h1
 ·rename_i hw;rw[mI hw];rcases h1 with h1|⟨_,a1,w1,h1,_⟩
  ·refine .inl (Oper.wp_mono (λa' w' h'=>?_) (TG (λc a' w' h'=>?_) (λh'=>?_) h1))
   ·exact h'.2
   ·exact nomatch h'.1
   ·obtain⟨_,_,h2,_⟩:=h';exact nomatch h2
  ·exact nomatch h1
 ·rename_i hw;rw[mJ hw];exact h1.2
def O9 (P:Program)(s:St)(o:Oper)(v:AV):Prop:=
 o.guard=none/\∀F os a w,Rel F os s a w->∃u,(∀w',(execOp a.eval o).run P w'=.ok (.value u) w')/\Ae F w os v u
theorem JW (i:Nat){v:AV}(hn:s.n=N)(ho:ops[i]?=some o)(hs:Region.noSelect ops=true)(hf:Region.free .any ops qi i=true)(hr:(Region.ready .any ops qi).contains i=true)(hd:DY s.n o.dst=true)(hh:O9 P s o v)
  (h:AX P k ops Q N f (qi.setIfInBounds i true) (s.put o.dst v)):AX P k ops Q N (f+1) qi s:=
 ⟨hn,λF0 os0 w0 F os a w rT he=>by
  obtain⟨hg,hh⟩:=hh;obtain⟨u,hu,hv⟩:=hh F os a w rT;refine wpAny_take ho hs hf hr (λc a w ⟨_,_,_,hp,_⟩=>nomatch hp.1) (.inl ⟨by unfold Region.wanted;rw[hg],hu⟩) ?_;exact h.2 F0 os0 w0 F os _ w (rT.put hd hv) he⟩
theorem IT {id:Nat}(hm:P.follows .mixedOrders=true)(h:AX P k ops Q s.n ops.size (Array.replicate ops.size false) s):AW P k (.region id ops true) Q s:=by
 refine AW.mono (Q:=λe s'=>e=.normal/\Q e s') ?_ λe s' hq=>hq.2;intro F os a w hr;obtain⟨zR,he1⟩:=hr.drew (k:=k);refine wp_region_any hm ?_;exact h.2 F os w F os a w.drew zR he1
end
section
variable {P : Program} {n : Nat} {e : Nat -> AV} {st : List Row} {t : Tmp} {ty : TypeId} {ps : String} {ed : Array Edge} {x : Operand} {v : AV}
theorem EK (h:St.ev ⟨n,e,st⟩ x=v):O9 P ⟨n,e,st⟩ ⟨some t,.move x,ty,ps,ed,none⟩ v:=
 ⟨rfl,λ_ _ a _ hr=>⟨a.eval x,λ_=>rfl,h▸hr.ev x⟩⟩
theorem eM (h:St.ev ⟨n,e,st⟩ x=v):O9 P ⟨n,e,st⟩ ⟨some t,.assign x,ty,ps,ed,none⟩ v:=
 ⟨rfl,λ_ _ a _ hr=>⟨a.eval x,λ_=>rfl,h▸hr.ev x⟩⟩
end
theorem E4 {k n:Nat}{e:Nat->AV}{st st':List Row}(h:st=st'):Wk k ⟨n,e,st⟩ ⟨n,e,st'⟩:=h▸Wk.refl _ _
section
variable {P : Program} {k : Nat}
variable {ops : Array Oper} {Q : Exit -> St -> Prop} {ds : List (Option Tmp)} {r : List Oper} {n : Nat} {e : Nat -> AV} {st st' : List Row} {ty : TypeId} {ps : String} {ed : Array Edge} {d : Option Tmp} {v v' : AV} {gd : Option (Nat × Bool)}
variable {f : FuncId} {sm : Array Operand} {ts : Array TypeId} {args sG : List AV} {rowsP rows0 rows1 rows1' rows2 rows2' : List Row}
theorem Rr {tf:Tmp}{rp:List AV}(sel:List Nat)(hg:GO ds gd e)(hfn:e tf=.fn f rp)(hb:Er P f=true)(hc:AS P f sG rows0 λr st=>r=v/\st=rows1++rows2)(ha:sm.toList.map (St.ev ⟨n,e,st⟩)++rp=args)(sy:sel.Nodup)(rJ:sel.all (·<st.length)=true)
  (hp:Cr st sel=rowsP) (hs:SR sel rowsP rows0) (hf:args.map (Ke sel)=sG) (hlen:rows1.length=sel.length) (h1:UN sel st.length rows1 rows1') (h2:UN sel st.length rows2 rows2') (hv:X8 sel st.length v=v') (uW:Jg sel rows1' 0 st++rows2'=st')
  (hk:AO P k ops Q (ds++[d]) r (St.put ⟨n,e,st'⟩ d v')):AO P k ops Q ds (⟨d,.call ⟨.value (.tmp tf),sm,ts⟩,ty,ps,ed,gd⟩::r) ⟨n,e,st⟩:=by
 subst uW;subst ha;subst hv;subst hp;refine Mf hg ?_;rw[Ya,show (St.mk n e st).env tf=e tf from rfl,hfn];refine⟨hb,QQ λhle=>?_⟩;obtain⟨e1,e2⟩:=hs.spec (st0:=st) hle (λrow qo=>by
  obtain⟨i,_,hi⟩:=nr.1 qo;exact mB hi)
 refine RX sel hc sy (λi hi=>by simpa using mL.1 rJ i hi) e1 e2 hf hlen (λrow qo=>by
  rcases my.1 qo with h|h
  ·exact h1.leaf row h
  ·exact h2.leaf row h) λ_=>?_
 simp only[h1.spec,h2.spec];exact hk
end
theorem E3 {P:Program}{s:St}{x y:Operand}{t:TypeId}{kk:IntKind}{α:Type}{l:List α}{enc:α->List AV}{n:Int}{u:α}{el size bytes:Nat}{zz cs:List AV}(he:Cj P t=some ⟨el,size,bytes,zz⟩)(hx:s.ev x=.sl (l.map enc))(hy:s.ev y=.int kk n)(hg:Sh.get l n=some u)(hq:enc u=cs)(hs:cs.length=size):
  AQ P s (.indexAddr t x y) (.Bt cs 0):=by subst hq;exact Bc he hx hy hg hs
theorem AW.fin {P:Program}{k:Nat}{c:Code}{Q:Exit->St->Prop}{s:St}(h :∀K:St->Prop,(∀s',Q .normal s'->K s')->AW P k c (YK K Q) s):AW P k c Q s:=
 (h (λs'=>Q .normal s') λ_ h=>h).mono λe s' hq=>by cases e<;>exact hq
end Go.Abs
