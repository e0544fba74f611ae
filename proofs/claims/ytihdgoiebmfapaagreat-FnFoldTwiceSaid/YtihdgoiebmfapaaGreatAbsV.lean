import Derived.Test.YtihdgoiebmfapaaGreatAbsU
set_option linter.all false
namespace Go.Abs
open Go
theorem OC {P:Program}{o:Oper}{a:Act}{w:World}{next:Act->World->Prop}{Q Q':Exit->Act->World->Prop}(hp :∀c a w,Q (.panic c) a w->Q' (.panic c) a w)(ho:LetsOut Q->LetsOut Q')(h:o.wp P a w next Q):o.wp P a w next Q':=by
 unfold Oper.wp at *;generalize (execOp a.eval o).run P w=r at *;cases r with
 | ok n w'=>
  cases n<;>simp only[Oper.upon]at h⊢
  case value=>exact h
  case skip=>exact h
  case defer=>exact h
  case enter f args=>
   refine Calls.mono h λe vV he=>?_;cases e with
   | returned u=>exact he
   | panicked c=>exact hp _ _ _ he
   | outgrown=>exact ho he
  case row=>exact h
 | halt x w'=>
  cases x<;>simp only[Oper.upon]at h⊢
  case panic u=>exact hp _ _ _ h
section
variable {P : Program} {k : Nat} {ops : Array Oper} {Q : Exit -> St -> Prop} {N f i : Nat} {oS : Array Bool} {s s' : St} {o : Oper}
def NI (k:Nat)(Q:Exit->St->Prop)(F:Nat->Prop)(os:List Own)(w:World):Exit->Act->World->Prop:=J4 k (λe s'=>e=.normal/\Q e s') F os w
def AX (P:Program)(k:Nat)(ops:Array Oper)(Q:Exit->St->Prop)(N f:Nat)(oS:Array Bool)(s:St):Prop:=
 s.n=N/\∀F0 os0 w0 F os a w,Rel F os s a w->Ext F0 os0 w0 F os w k->wpAny P .any ops (NI k Q F0 os0 w0) f oS a w
def Ec (P:Program)(k:Nat)(ops:Array Oper)(Q:Exit->St->Prop)(N f:Nat)(oS:Array Bool)(s:St)(i:Nat):Prop:=
 ∀F0 os0 w0 F os a w,Rel F os s a w->Ext F0 os0 w0 F os w k->wpOp P ops (NI k Q F0 os0 w0) i (wpAny P .any ops (NI k Q F0 os0 w0) f (oS.setIfInBounds i true)) a w
def bc (P:Program)(k:Nat)(ops:Array Oper)(Q:Exit->St->Prop)(N f:Nat)(oS:Array Bool)(s:St):List Nat->Prop
 | []=>True
 | i::r=>Ec P k ops Q N f oS s i/\bc P k ops Q N f oS s r
theorem bc.get:∀{l:List Nat},bc P k ops Q N f oS s l->∀i∈l,Ec P k ops Q N f oS s i
 | j::r,h,i,hi=>by
  rcases js.1 hi with rfl|hi
  ·exact h.1
  ·exact bc.get h.2 i hi
theorem CJ (rs:List Nat)(hn:s.n=N)(hr:Region.ready .any ops oS=rs)(pN:rs≠[])(h:bc P k ops Q N f oS s rs):AX P k ops Q N (f+1) oS s:=
 ⟨hn,λF0 os0 w0 F os a w hrel he=>wpAny_all hr pN λi hi=>h.get i hi F0 os0 w0 F os a w hrel he⟩
theorem Hc (hn:s.n=N)(hr:Region.ready .any ops oS=[])(h:Q .normal s):AX P k ops Q N f oS s:=
 ⟨hn,λ_ _ _ F os a w hrel he=>wpAny_done hr ⟨s,F,os,⟨rfl,h⟩,hrel,he⟩ f⟩
theorem As (hw:Wk k s s')(h:AX P k ops Q N f oS s')(hn:s.n=N):AX P k ops Q N f oS s:=
 ⟨hn,λF0 os0 w0 F os a w hrel he=>by
  obtain⟨F1,pU,h1,e1⟩:=hw F os a w hrel;exact h.2 F0 os0 w0 F1 pU a w h1 (he.trans e1)⟩
def Nq (o:Oper)(i:Nat):Bool:=match o.guard with
 | none=>true
 | some (j,_)=>decide (j<i+1)
theorem Ec.of (ho:ops[i]?=some o)(hg:Nq o i=true)(hd:(ops.toList.all λo=>DC s.n o.dst)=true)
  (h:AO P k (ops.extract 0 (i+1)) (λe s'=>e=.normal/\AX P k ops Q N f (oS.setIfInBounds i true) s') ((ops.toList.take i).map (·.dst)) [o] s):Ec P k ops Q N f oS s i:=by
 intro F0 os0 w0 F os a w hrel he;have hi:i<ops.size:=(kR.1 ho).1;have hex:∀j,(ops.extract 0 (i+1))[j]?=if j<i+1 then ops[j]? else none:=λj=>by
  rw[Array.getElem?_extract];split<;>split<;>simp_all<;>omega
 have h1:=h (λj=>by
   have hlen:((ops.toList.take i).map (·.dst)).length=i:=by simp;omega
   rw[hlen,hex];cases j with
   | zero=>simp[ho]
   | succ j=>rw[jn (by omega)];simp) (λj d hj=>by
   simp only[ji,kL]at hj;split at hj
   ·rw[hex,jm (by omega)];simpa using hj
   ·cases hj) (λo' pQ=>by
   obtain⟨j,hj⟩:=jz.1 pQ;rw[lq,hex]at hj;split at hj
   ·exact jq.1 hd o' (je (i:=j) (by simpa using hj))
   ·cases hj) F os a w hrel (λe a' w'=>e=.normal/\wpAny P .any ops (NI k Q F0 os0 w0) f (oS.setIfInBounds i true) a' w') (by
   rintro e a' w' ⟨s',F',os',⟨rfl,hax⟩,qF,he'⟩;exact⟨rfl,hax.2 F0 os0 w0 F' os' a' w' qF (he.trans he')⟩)
 have hy:Region.wanted o (yielded (ops.extract 0 (i+1)) a.tmps)=Region.wanted o (yielded ops a.tmps):=by
  unfold Region.wanted;unfold Nq at hg;cases hgd:o.guard with
  | none=>rfl
  | some p=>
   obtain⟨j,want⟩:=p;rw[hgd]at hg;simp only[jw]at hg;simp only[yielded,hex,jm hg]
 unfold wpList at h1;unfold wpOp;simp only[ho];rw[hy]at h1;split at h1
 ·rename_i hw;rw[jm hw];rcases h1 with h1|⟨_,a1,w1,h1,_⟩
  ·refine .inl (Oper.wp_mono (λa' w' h'=>?_) (OC (λc a' w' h'=>?_) (λh'=>?_) h1))
   ·exact h'.2
   ·exact nomatch h'.1
   ·obtain⟨_,_,h2,_⟩:=h';exact nomatch h2
  ·exact nomatch h1
 ·rename_i hw;rw[jn hw];exact h1.2
def OW (P:Program)(s:St)(o:Oper)(v:AV):Prop:=
 o.guard=none/\∀F os a w,Rel F os s a w->∃u,(∀w',(execOp a.eval o).run P w'=.ok (.value u) w')/\Ae F w os v u
theorem LG (i:Nat){v:AV}(hn:s.n=N)(ho:ops[i]?=some o)(hs:Region.noSelect ops=true)(hf:Region.free .any ops oS i=true)(hr:(Region.ready .any ops oS).contains i=true)(hd:DC s.n o.dst=true)(hh:OW P s o v)
  (h:AX P k ops Q N f (oS.setIfInBounds i true) (s.put o.dst v)):AX P k ops Q N (f+1) oS s:=
 ⟨hn,λF0 os0 w0 F os a w hrel he=>by
  obtain⟨hg,hh⟩:=hh;obtain⟨u,hu,hv⟩:=hh F os a w hrel;refine wpAny_take ho hs hf hr (λc a w ⟨_,_,_,hp,_⟩=>nomatch hp.1) (.inl ⟨by unfold Region.wanted;rw[hg],hu⟩) ?_;exact h.2 F0 os0 w0 F os _ w (hrel.put hd hv) he⟩
theorem H9 {id:Nat}(hm:P.follows .mixedOrders=true)(h:AX P k ops Q s.n ops.size (Array.replicate ops.size false) s):AW P k (.region id ops true) Q s:=by
 refine AW.mono (Q:=λe s'=>e=.normal/\Q e s') ?_ λe s' hq=>hq.2;intro F os a w hr;obtain⟨vA,he1⟩:=hr.drew (k:=k);refine nU hm ?_;exact h.2 F os w F os a w.drew vA he1
end
section
variable {P : Program} {n : Nat} {e : Nat -> AV} {st : List Row} {t : Tmp} {ty : TypeId} {ps : String} {ed : Array Edge} {x : Operand} {v : AV}
theorem Ia (h:St.ev ⟨n,e,st⟩ x=v):OW P ⟨n,e,st⟩ ⟨some t,.move x,ty,ps,ed,none⟩ v:=
 ⟨rfl,λ_ _ a _ hr=>⟨a.eval x,λ_=>rfl,h▸hr.ev x⟩⟩
theorem cj (h:St.ev ⟨n,e,st⟩ x=v):OW P ⟨n,e,st⟩ ⟨some t,.assign x,ty,ps,ed,none⟩ v:=
 ⟨rfl,λ_ _ a _ hr=>⟨a.eval x,λ_=>rfl,h▸hr.ev x⟩⟩
end
theorem Fo {k n:Nat}{e:Nat->AV}{st st':List Row}(h:st=st'):Wk k ⟨n,e,st⟩ ⟨n,e,st'⟩:=h▸Wk.refl _ _
section
variable {P : Program} {k : Nat}
variable {ops : Array Oper} {Q : Exit -> St -> Prop} {ds : List (Option Tmp)} {r : List Oper} {n : Nat} {e : Nat -> AV} {st st' : List Row} {ty : TypeId} {ps : String} {ed : Array Edge} {d : Option Tmp} {v v' : AV} {gd : Option (Nat × Bool)}
variable {f : FuncId} {pw : Array Operand} {ts : Array TypeId} {args pS : List AV} {rowsP rows0 rows1 rows1' rows2 rows2' : List Row}
theorem Z2 {tf:Tmp}{pc:List AV}(sel:List Nat)(hg:GO ds gd e)(yn:e tf=.fn f pc)(hb:Dl P f=true)(hc:Ab P f pS rows0 λr st=>r=v/\st=rows1++rows2)(ha:pw.toList.map (St.ev ⟨n,e,st⟩)++pc=args)(qM:sel.Nodup)(pG:sel.all (·<st.length)=true)
  (hp:Cc st sel=rowsP) (hs:SR sel rowsP rows0) (hf:args.map (KB sel)=pS) (hlen:rows1.length=sel.length) (h1:UN sel st.length rows1 rows1') (h2:UN sel st.length rows2 rows2') (hv:Sn sel st.length v=v') (qg:Fz sel rows1' 0 st++rows2'=st')
  (hk:AO P k ops Q (ds++[d]) r (St.put ⟨n,e,st'⟩ d v')):AO P k ops Q ds (⟨d,.call ⟨.value (.tmp tf),pw,ts⟩,ty,ps,ed,gd⟩::r) ⟨n,e,st⟩:=by
 subst qg;subst ha;subst hv;subst hp;refine L9 hg ?_;rw[Xo,show (St.mk n e st).env tf=e tf from rfl,yn];refine⟨hb,KN λhle=>?_⟩;obtain⟨e1,e2⟩:=hs.spec (st0:=st) hle (λrow oY=>by
  obtain⟨i,_,hi⟩:=kz.1 oY;exact je hi)
 refine Kt sel hc qM (λi hi=>by simpa using jq.1 pG i hi) e1 e2 hf hlen (λrow oY=>by
  rcases kJ.1 oY with h|h
  ·exact h1.leaf row h
  ·exact h2.leaf row h) λ_=>?_
 simp only[h1.spec,h2.spec];exact hk
end
theorem By {P:Program}{s:St}{x y:Operand}{t:TypeId}{kk:IntKind}{α:Type}{l:List α}{enc:α->List AV}{n:Int}{u:α}{el size bytes:Nat}{zz cs:List AV}(he:D2 P t=some ⟨el,size,bytes,zz⟩)(hx:s.ev x=.sl (l.map enc))(hy:s.ev y=.int kk n)(hg:Sh.get l n=some u)(hq:enc u=cs)(hs:cs.length=size):
  AQ P s (.indexAddr t x y) (.Bh cs 0):=by subst hq;exact Cg he hx hy hg hs
theorem NX {α:Type}{l:List α}{enc:α->List AV}{n:Int}{u:α}{cs:List AV}(h:Sh.get l n=some u)(he:enc u=cs):(l.map enc)[n.toNat]?=some cs:=by subst he;exact CU h
theorem AW.fin {P:Program}{k:Nat}{c:Code}{Q:Exit->St->Prop}{s:St}(h :∀K:St->Prop,(∀s',Q .normal s'->K s')->AW P k c (KF K Q) s):AW P k c Q s:=
 (h (λs'=>Q .normal s') λ_ h=>h).mono λe s' hq=>by cases e<;>exact hq
end Go.Abs
