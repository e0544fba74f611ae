import Derived.Test.YtccficmcdkcpnaaGreatGAbsZPToSSDefs
import Derived.Test.YtccficmcdkcpnaaGreatGAbsZQToAbsZS
set_option linter.all false
namespace Go.Abs
open Go
def preB:Nat->Nat->List Nat->Bool
 | 0,_,_=>true
 | _+1,_,[]=>false
 | k+1,i,a::l=>Nat.beq a i&&preB k (i+1) l
def hasB (a:Nat):List Nat->Bool
 | []=>false
 | b::l=>Nat.beq b a || hasB a l
def dO:List Nat->Bool
 | []=>true
 | a::l=>!hasB a l&&dO l
def dB (k n:Nat)(sel:List Nat):Bool:=preB k 0 sel&&dO sel&&sel.all (·<n)
theorem aR:∀(k i:Nat) (l:List Nat),preB k i l=true->l.take k=List.range' i k
 | 0,_,_,_=>by simp
 | k+1,i,[],h=>by simp[preB]at h
 | k+1,i,a::l,h=>by
  simp only[preB,uT]at h;rw[List.take_succ_cons,List.range'_succ,aR k (i+1) l h.2,vw h.1]
theorem cW {a:Nat}:∀{l:List Nat},hasB a l=false->a ∉ l
 | [],_=>by simp
 | b::l,h=>by
  simp only[hasB,yE]at h;intro hm;rcases uz.1 hm with rfl|hm
  ·rw[Nat.beq_refl]at h;cases h.1
  ·exact cW h.2 hm
theorem WW:∀{l:List Nat},dO l=true->l.Nodup
 | [],_=>List.nodup_nil
 | a::l,h=>by
  simp only[dO,uT,vj]at h;exact List.nodup_cons.2 ⟨cW h.1,WW h.2⟩
theorem Q0 {k n:Nat}{sel:List Nat}(h:dB k n sel=true):sel.take k=List.range k/\sel.Nodup/\sel.all (·<n)=true:=by
 unfold dB at h;simp only[uT]at h;exact⟨by rw[aR k 0 sel h.1.1,List.range_eq_range'],WW h.1.2,h.2⟩
theorem Wk.pq {k n:Nat}{e:Nat->AV}{st st1 st':List Row}{L:List (Nat×AV)}(sel:List Nat)(hc:dB k st.length sel=true)(hp:Ca st sel=st1)(hs:SR sel st1 st')(h:ME (λt=>L0 sel (e t)) L):
  Wk k ⟨n,e,st⟩ ⟨n,AJ L,st'⟩:=Sm sel (Q0 hc).1 (Q0 hc).2.1 (Q0 hc).2.2 hp hs h
theorem Je {k n:Nat}{e:Nat->AV}{st st':List Row}{L:List (Nat×AV)}(sel:List Nat)(hc:dB k st.length sel=true)(hp:Ca st sel=st')(hs:SR sel st' st')(h:ME (λt=>L0 sel (e t)) L):
  Wk k ⟨n,e,st⟩ ⟨n,AJ L,st'⟩:=Wk.pk sel (Q0 hc).1 (Q0 hc).2.1 (Q0 hc).2.2 hp hs h
theorem SR.w {sel:List Nat}{g size:Nat}{el:TypeId}{cs cs':List AV}{r r':List Row}(hl:SR sel r r')(hc:cs.map (Lj sel)=cs':=by rfl)(hp:cs'.all AV.leaf=true:=by rfl):SR sel (⟨g,el,size,[cs]⟩::r) (⟨g,el,size,[cs']⟩::r'):=.raw hc hp hl
theorem SR.p {α:Type}{l:List α}{enc:α->List AV}{sel:List Nat}{g size:Nat}{el:TypeId}{r r':List Row}(hl:SR sel r r')(h :∀x,(enc x).all simple=true:=by exact λ_=>rfl):SR sel (⟨g,el,size,l.map enc⟩::r) (⟨g,el,size,l.map enc⟩::r'):=.pure (BM h) hl
end Go.Abs
namespace Go.Abs
open Go
section
variable {P : Program} {k : Nat} {ops : Array Oper} {Q : Exit -> St -> Prop} {n m len : Nat} {st st' R : List Row} {e : Nat -> AV} {ds : List (Option Tmp)} {d : Option Tmp} {t : Tmp} {T el ty : TypeId} {ps : String} {ed : Array Edge} {v v' : AV} {r : List Oper} {gd : Option (Nat × Bool)} {xs : List (List AV)} {g size sz bytes : Nat} {zz cs : List AV} {x y : Operand} {f : FuncId} {ars : Array Operand} {ts : Array TypeId} {args' : List AV} {ag : Bool} {parts : Array (Nat × Operand)} {α : Type}
theorem Bm {β:Type}{a b:β}(h:some a=some b):b=a:=(Sh.Av h).symm
theorem BB {l:List α}{enc:α->List AV}(h :∀x,(enc x).all simple=true:=by exact λ_=>rfl):Gm (l.map enc):=BM h
theorem JT (L:List (Nat×AV))(st':List Row)(id:Nat){l:List α}{enc:α->List AV}(zh:st[id]?=some ⟨g,el,size,l.map enc⟩)(h:ME (λt=>Abs.Db id g (l.map enc) (e t)) L)(hp :∀x,(enc x).all simple=true)(hc:(Nat.ble k id,st.set id ⟨g+1,el,size,[]⟩)=(true,st'))(hk:AO P k ops Q ds r ⟨n,AJ L,st'⟩):AO P k ops Q ds r ⟨n,e,st⟩:=
 Ac (Wk.Db zh (wF (vI Prod.fst hc)) (BM hp) h (vI Prod.snd hc)) hk
theorem D9 (m:Nat)(l:List α)(enc:α->List AV)(he:Ck P T=some ⟨el,size,bytes,zz⟩)(h:(Nat.ble (len*size) 16777216,(PJ (λi=>some (i*size,size)) ((List.replicate len zz).flatten) (parts.toList.map λp=>(p.1,St.ev ⟨n,e,st⟩ p.2))).map (chunk size len),len,st.length)=(true,some (l.map enc),l.length,m))
  (hk:AO P k ops Q (ds++[some t]) r ⟨n,EW e t (.own m 0 l.length),st++[⟨0,el,size,l.map enc⟩]⟩):AO P k ops Q ds (⟨some t,.buildSlice T len parts,ty,ps,ed,none⟩::r) ⟨n,e,st⟩:=by
 simp only[wE]at h;obtain⟨h1,h2,h3,h4⟩:=h;obtain⟨cs,hc,hck⟩:=uR.1 h2;exact Oc BJ he (wF h1) rfl hc hck h3 h4 rfl hk
def tq (sz n:Nat)(e:Nat->AV)(st:List Row)(x y:Operand):Option (List Row):=
 match St.ev ⟨n,e,st⟩ x with
 | .ptr id g i off=>match st[id]? with
  | some ⟨g',el,size,xs⟩=>match xs[i]? with
   | some zz=>match MF (St.ev ⟨n,e,st⟩ y) with
    | some cs=>match Nat.beq g' g,Nat.beq cs.length sz,Nat.ble (off+cs.length) size with
     | true,true,true=>some (st.set id ⟨g',el,size,xs.set i (Ip zz off cs)⟩)
     | _,_,_=>none
    | none=>none
   | none=>none
  | none=>none
 | _=>none
theorem CF (ht:DJ P T=some (ag,sz))(h:tq sz n e st x y=some st')(hk:AO P k ops Q (ds++[none]) r ⟨n,e,st'⟩):AO P k ops Q ds (⟨none,.store T x y,ty,ps,ed,none⟩::r) ⟨n,e,st⟩:=by
 unfold tq at h;split at h
 ·rename_i id g i off hx;split at h
  ·rename_i g' el size xs hr;split at h
   ·rename_i zz hi;split at h
    ·rename_i cs hc;split at h
     ·rename_i h1 h2 h3;obtain rfl:=vw h1;exact Rm BJ ht hx hr hi rfl hc (vw h2) (wF h3) (xS h) hk
     ·cases h
    ·cases h
   ·cases h
  ·cases h
 ·cases h
def Qy (sz:Nat)(s:St)(x:Operand):Option (List AV):=
 match s.ev x with
 | .ptr id g i off=>match s.st[id]? with
  | some ⟨g',_,_,xs⟩=>match xs[i]? with
   | some cs=>match Nat.beq g' g,Nat.ble (off+sz) cs.length with
    | true,true=>some ((cs.drop off).take sz)
    | _,_=>none
   | none=>none
  | none=>none
 | _=>none
theorem Lk (x:Operand)(vs:List AV){s:St}(ht:DJ P T=some (true,sz))(h:Qy sz s x=some vs):AQ P s (.load T x) (.agg vs):=by
 unfold Qy at h;split at h
 ·rename_i id g i off hx;split at h
  ·rename_i g' el size xs hr;split at h
   ·rename_i cs hi;split at h
    ·rename_i h1 h2;obtain rfl:=vw h1;exact Zl ht hx hr hi (wF h2) (xS h)
    ·cases h
   ·cases h
  ·cases h
 ·cases h
theorem CY (m:Nat)(h:((MF (St.ev ⟨n,e,st⟩ x)).bind λcs=>if cs.isEmpty then none else some cs,st.length)=(some cs,m))(hk:AO P k ops Q (ds++[some t]) r ⟨n,EW e t (.ptr m 0 0 0),st++[⟨0,T,cs.length,[cs]⟩]⟩):AO P k ops Q ds (⟨some t,.box T x,ty,ps,ed,none⟩::r) ⟨n,e,st⟩:=by
 simp only[wE]at h;obtain⟨cs',h1,h2⟩:=vO.1 h.1;split at h2
 ·cases h2
 ·rename_i hne;obtain rfl:=xS h2;exact qs BJ rfl h1 (by simpa using hne) h.2 rfl hk
theorem Cm (m:Nat)(hz:IE P T=some zz)(hm:st.length=m)(hk:AO P k ops Q (ds++[some t]) r ⟨n,EW e t (.ptr m 0 0 0),st++[⟨0,T,zz.length,[zz]⟩]⟩):AO P k ops Q ds (⟨some t,.alloc T,ty,ps,ed,none⟩::r) ⟨n,e,st⟩:=W2 BJ hz hm rfl hk
def qP:List Nat->Bool
 | []=>true
 | a::l=>!l.any (Nat.beq a)&&qP l
theorem kF:∀{l:List Nat},qP l=true->l.Nodup
 | [],_=>.nil
 | a::l,h=>by
  simp only[qP,uT,vj,List.any_eq_false]at h;exact List.nodup_cons.2 ⟨λhm=>h.1 a hm (Nat.beq_refl a),kF h.2⟩
def ra (A B:List Row)(sel:List Nat)(st:List Row)(vs:List AV)(v:AV):=(qP sel,sel.all (Nat.blt · st.length),Ca st sel,vs.map (L0 sel),B.length,bQ sel st.length v,KN sel B 0 st)
theorem uD (A B st':List Row)(v':AV)(sel:List Nat)(hg:GO ds gd e)(hb:DP P f=true)(hc:BW P f args' A λr st=>r=v/\st=B)(h:ra A B sel st (ars.toList.map (St.ev ⟨n,e,st⟩)++[]) v=(true,true,A,args',sel.length,v',st'))
  (hs:SR sel A A) (h1:UN sel st.length B B) (hk:AO P k ops Q (ds++[d]) r (St.put ⟨n,e,st'⟩ d v')):AO P k ops Q ds (⟨d,.call ⟨.value (.func f),ars,ts⟩,ty,ps,ed,gd⟩::r) ⟨n,e,st⟩:=by
 simp only[ra,wE]at h;obtain⟨a1,a2,a3,a4,a5,a6,a7⟩:=h;exact ZS sel hg hb hc rfl (kF a1) (uS.2 λi hi=>by have:=uS.1 a2 i hi;simp only[Nat.blt]at this;exact xm (wF this)) a3 hs a4 a5 h1 .nil a6 a7 hk
theorem pT {e1 e2:TypeId}{g1 g2 z1 z2:Nat}{c1 c2:List AV}(st':List Row)(v':AV)(sel:List Nat)(hg:GO ds gd e)(hb:DP P f=true)(hc:BW P f args' [⟨g1,e1,z1,[c1]⟩] λr st=>r=v/\st=[⟨g2,e2,z2,[c2]⟩])(h:ra [⟨g1,e1,z1,[c1]⟩] [⟨g2,e2,z2,[c2]⟩] sel st (ars.toList.map (St.ev ⟨n,e,st⟩)++[]) v=(true,true,[⟨g1,e1,z1,[c1]⟩],args',sel.length,v',st'))
  (h1:(c1.map (Lj sel),c1.all AV.leaf,c2.map (PH sel st.length),c2.all AV.leaf)=(c1,true,c2,true)) (hk:AO P k ops Q (ds++[d]) r (St.put ⟨n,e,st'⟩ d v')):AO P k ops Q ds (⟨d,.call ⟨.value (.func f),ars,ts⟩,ty,ps,ed,gd⟩::r) ⟨n,e,st⟩:=by
 simp only[wE]at h1;exact uD _ _ st' v' sel hg hb hc h (.raw h1.1 h1.2.1 .nil) (.raw h1.2.2.1 h1.2.2.2 .nil) hk
theorem CR {args:List AV}(hb:DP P f=true)(hc:BW P f args [] λr st=>r=v/\st=[])(h:(ars.toList.map (St.ev ⟨n,e,st⟩)++[],args.all flat,fo (shift st.length v))=(args,true,some v'))(hk:AO P k ops Q (ds++[d]) r (St.put ⟨n,e,st⟩ d v')):AO P k ops Q ds (⟨d,.call ⟨.value (.func f),ars,ts⟩,ty,ps,ed,none⟩::r) ⟨n,e,st⟩:=by
 simp only[wE]at h;exact zc hb hc h.1 h.2.1 h.2.2 hk
theorem Px {args:List AV}(v':AV)(hb:DP P f=true)(hc:BW P f args [] λr st=>r=v/\st=[])(h:(ars.toList.map (St.ev ⟨n,e,st⟩)++[],args.all flat,fo (shift st.length v))=(args,true,some v'))(hk:AO P k ops Q (ds++[d]) r (St.put ⟨n,e,st⟩ d v')):AO P k ops Q ds (⟨d,.call ⟨.value (.func f),ars,ts⟩,ty,ps,ed,none⟩::r) ⟨n,e,st⟩:=CR hb hc h hk
theorem Ag {L:List (Nat×AV)}(h:Vw e L=Vo L:=by exact rfl):Wk k ⟨n,e,st⟩ ⟨n,AJ L,st⟩:=F3 h
section
variable {x0 y0 : Row} {z0 : List Row} {K : MS -> Prop}
end
section
variable {N f : Nat} {zU : Array Bool} {op : Op}
theorem S9 (T:Mo P)(i:Nat)(ho:ops[i]?=some ⟨some t,op,ty,ps,ed,none⟩)(h:hE T ⟨n,e,st⟩ op=some v)(hk:AX P k ops Q n f (zU.setIfInBounds i true) ⟨n,EW e t v,st⟩)(hc:aP ops zU i n (some t) op=true:=by kernel_rfl):AX P k ops Q n (f+1) zU ⟨n,e,st⟩:=fO T i ho hc h hk
end
end
end Go.Abs
namespace Go.Abs
open Go
section
variable {P : Program} {k n : Nat} {ops : Array Oper} {Q : Exit -> St -> Prop} {N f : Nat} {zU : Array Bool} {s : St} {st : List Row} {e : Nat -> AV} {ds : List (Option Tmp)} {t : Tmp} {op : Op} {ty : TypeId} {ps : String} {ed : Array Edge} {v : AV} {o : Oper} {r : List Oper} {c x y : Code}
theorem nN:Gm []:=by intro x e;cases e
theorem DA {α β:Type}{g:α->β}:∀x,g x=g x:=λ_=>rfl
theorem Bi {α:Type}{l:List α}{enc:α->List AV}(h :∀x,(enc x).all FI=true:=by exact λ_=>rfl):DG (l.map enc):=AT h
abbrev JJ {α:Type}(o a:α)(W:St)(K:St->Prop):Prop:=some a=some o->∀{s},Wk 0 s W->K s
theorem Bb {f:FuncId}{fn:Func}{args:List AV}{R:AV->List Row->Prop}(hf:P.funcs[f]?=some fn)(h0:(fn.body,fn.ntmps,Nat.ble args.length fn.ntmps,st.length)=(some c,N,true,k))(h:AW P k c (ju P k fn R) ⟨N,AJ (aM 0 args),st⟩):BW P f args st R:=by
 simp only[wE]at h0;obtain⟨h1,h2,h3,h4⟩:=h0;exact ai hf h1 h2 (h2▸h3) h4 h
theorem AR {K p:St->Prop}(hK :∀s,p s->K s)(h:p s)(hq:Q .normal s=K s:=by exact rfl):AO P k ops Q ds [] s:=dn hK hq h
theorem Ab {id:Nat}(h :∀K:St->Prop,(∀s,AW P k y Q s->K s)->AO P k ops (TW K Q) [] ops.toList s)(hd:(ops.toList.all λo=>DK s.n o.dst)=true:=by exact rfl):AW P k (.seq (.region id ops false) y) Q s:=sr hd h
theorem An {α:Type}{b:Bool}{o:Operand}{A B C:α}(h:(if b=true then A else B)=C)(h1:b=true->A=C->AW P k x Q s)(h2:b=false->B=C->AW P k y Q s)(ho:od (s.ev o)=some b:=by exact rfl):AW P k (.cond o x y) Q s:=ci h ho h1 h2
theorem DI {α:Type}{l:List α}{enc:α->List AV}{j:Int}{u:α}{kk:IntKind}{t' el:TypeId}{size bytes:Nat}{zz:List AV}{x y:Operand}(he:Ck P t'=some ⟨el,size,bytes,zz⟩)(hg:Sh.get l j=some u)(hx:(St.ev ⟨n,e,st⟩ x,St.ev ⟨n,e,st⟩ y)=(.sl (l.map enc),.int kk j))(hk:AO P k ops Q (ds++[some t]) r ⟨n,EW e t (.Bj (enc u) 0),st⟩)(hs:(enc u).length=size:=by exact rfl):AO P k ops Q ds (⟨some t,.indexAddr t' x y,ty,ps,ed,none⟩::r) ⟨n,e,st⟩:=by
 simp only[wE]at hx;exact zx he hg hx.1 hx.2 hs hk
theorem Lw {KS:St->Prop}{α:Type}{l:List α}{enc:α->List AV}{j:Int}{u:α}{kk:IntKind}{t' el:TypeId}{size bytes:Nat}{zz:List AV}{x y:Operand}(he:Ck P t'=some ⟨el,size,bytes,zz⟩)(hg:Sh.get l j=some u)(hx:(St.ev ⟨n,e,st⟩ x,St.ev ⟨n,e,st⟩ y)=(.sl (l.map enc),.int kk j))(hk:DX P (ds++[some t]) r KS ⟨n,EW e t (.Bj (enc u) 0),st⟩)(hs:(enc u).length=size:=by exact rfl):DX P ds (⟨some t,.indexAddr t' x y,ty,ps,ed,none⟩::r) KS ⟨n,e,st⟩:=by
 simp only[wE]at hx;exact yx he hg hx.1 hx.2 hs hk
theorem hY (i:Nat)(v:AV)(ho:ops[i]?=some o)(hh:Pd P s o v)(h:AY P k ops Q N f (zU.setIfInBounds i true) (s.put o.dst v))(hs:(Region.noSelect ops&&Region.free .any ops zU i&&(Region.ready .any ops zU).contains i)=true:=by kernel_rfl)(hn:s.n=N:=by exact rfl)(hd:DK s.n o.dst=true:=by exact rfl):AY P k ops Q N (f+1) zU s:=by
 simp only[uT]at hs;exact S0 i hn ho hs.1.1 hs.1.2 hs.2 hd hh h
theorem hZ (i:Nat)(v:AV)(ho:ops[i]?=some o)(hh:R6 P s o v)(h:AZ P k ops Q N f (zU.setIfInBounds i true) (s.put o.dst v))(hs:(Region.noSelect ops&&Region.free .any ops zU i&&(Region.ready .any ops zU).contains i)=true:=by kernel_rfl)(hn:s.n=N:=by exact rfl)(hd:DK s.n o.dst=true:=by exact rfl):AZ P k ops Q N (f+1) zU s:=by
 simp only[uT]at hs;exact AZ.hoist i hn ho hs.1.1 hs.1.2 hs.2 hd hh h
theorem qX (T:Mo P)(i:Nat)(ho:ops[i]?=some ⟨some t,op,ty,ps,ed,none⟩)(h:hE T ⟨n,e,st⟩ op=some v)(hk:AX P k ops Q n f (zU.setIfInBounds i true) ⟨n,EW e t v,st⟩)(hc:aP ops zU i n (some t) op=true:=by kernel_rfl):AX P k ops Q n (f+1) zU ⟨n,e,st⟩:=fO T i ho hc h hk
theorem qY (T:Mo P)(i:Nat)(ho:ops[i]?=some ⟨some t,op,ty,ps,ed,none⟩)(h:hE T ⟨n,e,st⟩ op=some v)(hk:AY P k ops Q n f (zU.setIfInBounds i true) ⟨n,EW e t v,st⟩)(hc:aP ops zU i n (some t) op=true:=by kernel_rfl):AY P k ops Q n (f+1) zU ⟨n,e,st⟩:=AY.hq T i ho hc h hk
theorem aX (i:Nat)(v:AV)(ho:ops[i]?=some ⟨some t,op,ty,ps,ed,none⟩)(h:AQ P ⟨n,e,st⟩ op v)(hk:AX P k ops Q n f (zU.setIfInBounds i true) ⟨n,EW e t v,st⟩)(hc:(Z3 ops zU i n (some t)&&T4 P op)=true:=by kernel_rfl):AX P k ops Q n (f+1) zU ⟨n,e,st⟩:=by
 simp only[uT]at hc;exact AX.ha i ho hc.1 hc.2 h hk
theorem aY (i:Nat)(v:AV)(ho:ops[i]?=some ⟨some t,op,ty,ps,ed,none⟩)(h:AQ P ⟨n,e,st⟩ op v)(hk:AY P k ops Q n f (zU.setIfInBounds i true) ⟨n,EW e t v,st⟩)(hc:(Z3 ops zU i n (some t)&&T4 P op)=true:=by kernel_rfl):AY P k ops Q n (f+1) zU ⟨n,e,st⟩:=by
 simp only[uT]at hc;exact AY.ha i ho hc.1 hc.2 h hk
theorem LN {σ ρ:Type}(F:Nat->σ->Option ρ){o:ρ}(canon:σ->St)(n0:Nat)(v0:σ)(h0:F n0 v0=some o)(hw:Wk k s (canon v0))(round :∀n v,F (n+1) v=some o->AW P k c (TW (λs'=>∃v',F n v'=some o/\Wk k s' (canon v')) Q) (canon v))(hz :∀v,F 0 v=none:=by exact λ_=>rfl):AW P k (.loop c) Q s:=
 LK (λn v=>F n v=some o) canon n0 v0 h0 hw (λv h=>by rw[hz]at h;cases h) round
theorem Fh {σ τ ρ:Type}(F:Nat->σ->τ->Option ρ){o:ρ}(canon:σ->τ->St)(n0:Nat)(v0:σ)(w0:τ)(h0:F n0 v0 w0=some o)(hw:Wk k s (canon v0 w0))(round :∀n v w,F (n+1) v w=some o->AW P k c (TW (λs'=>∃v':σ×τ,F n v'.1 v'.2=some o/\Wk k s' (canon v'.1 v'.2)) Q) (canon v w))(hz :∀v w,F 0 v w=none:=by exact λ_ _=>rfl):AW P k (.loop c) Q s:=
 LK (λn (v:σ×τ)=>F n v.1 v.2=some o) (λv=>canon v.1 v.2) n0 (v0,w0) h0 hw (λv h=>by rw[hz]at h;cases h) (λn v=>round n v.1 v.2)
theorem Vl {σ τ υ ρ:Type}(F:Nat->σ->τ->υ->Option ρ){o:ρ}(canon:σ->τ->υ->St)(n0:Nat)(v0:σ)(w0:τ)(u0:υ)(h0:F n0 v0 w0 u0=some o)(hw:Wk k s (canon v0 w0 u0))(round :∀n v w u,F (n+1) v w u=some o->AW P k c (TW (λs'=>∃v':σ×τ×υ,F n v'.1 v'.2.1 v'.2.2=some o/\Wk k s' (canon v'.1 v'.2.1 v'.2.2)) Q) (canon v w u))(hz :∀v w u,F 0 v w u=none:=by exact λ_ _ _=>rfl):AW P k (.loop c) Q s:=
 LK (λn (v:σ×τ×υ)=>F n v.1 v.2.1 v.2.2=some o) (λv=>canon v.1 v.2.1 v.2.2) n0 (v0,w0,u0) h0 hw (λv h=>by rw[hz]at h;cases h) (λn v=>round n v.1 v.2.1 v.2.2)
end
end Go.Abs
namespace Go.Abs
open Go
section
variable {P : Program} {k n : Nat} {ops : Array Oper} {Q : Exit -> St -> Prop} {s : St} {st rows : List Row} {e : Nat -> AV} {ds : List (Option Tmp)} {t : Tmp} {d : Option Tmp} {op : Op} {ty : TypeId} {ps : String} {ed : Array Edge} {v v' : AV} {r : List Oper} {x y : Operand} {jj : Nat} {b want : Bool} {KS : St -> Prop} {f : FuncId} {ars : Array Operand} {ts : Array TypeId} {args : List AV} {gd : Option (Nat × Bool)} {α : Type} {l l' l2 : List α} {enc : α -> List AV} {T el : TypeId} {size bytes g id m : Nat} {zz : List AV} {j : Int} {u : α} {kk : IntKind} {cs : List AV}
theorem CP (v:AV)(hb:b=want)(hq:AQ P ⟨n,e,st⟩ op v)(hk:AO P k ops Q (ds++[some t]) r ⟨n,EW e t v,st⟩)(hj:gE ds jj e=some b:=by exact rfl)(hl:MA op=false:=by exact rfl):AO P k ops Q ds (⟨some t,op,ty,ps,ed,some (jj,want)⟩::r) ⟨n,e,st⟩:=DW (dg hj hb) hl hq hk
theorem Dx (v':AV)(hc:BW P f args [] λr st=>r=v/\st=rows)(hp:VT rows)(hk:AO P k ops Q (ds++[d]) r (St.put ⟨n,e,st++rows⟩ d v'))(hv:shift st.length v=v':=by exact rfl)(ha:ars.toList.map (St.ev ⟨n,e,st⟩)++[]=args:=by exact rfl)(hf:args.all flat=true:=by exact rfl)(hb:DP P f=true:=by kernel_rfl):AO P k ops Q ds (⟨d,.call ⟨.value (.func f),ars,ts⟩,ty,ps,ed,none⟩::r) ⟨n,e,st⟩:=Jf BJ hb hc ha hf hp hv rfl hk
theorem Og (hc:BW P f args [] λr st=>r=v/\st=[])(hk:DX P (ds++[some t]) r KS ⟨n,EW e t v,st⟩)(ha:ars.toList.map (St.ev ⟨n,e,st⟩)++[]=args:=by exact rfl)(hf:args.all flat=true:=by exact rfl)(hv:flat v=true:=by exact rfl)(hb:DP P f=true:=by kernel_rfl):DX P ds (⟨some t,.call ⟨.value (.func f),ars,ts⟩,ty,ps,ed,none⟩::r) KS ⟨n,e,st⟩:=N7 BJ hb hc ha hf hv hk
theorem Iy (hbw:b=want)(hc:BW P f args [] λr st=>r=v/\st=[])(hv:fo (shift st.length v)=some v')(hk:AO P k ops Q (ds++[d]) r (St.put ⟨n,e,st⟩ d v'))(ha:ars.toList.map (St.ev ⟨n,e,st⟩)++[]=args:=by exact rfl)(hf:args.all flat=true:=by exact rfl)(hg:gE ds jj e=some b:=by exact rfl)(hb:DP P f=true:=by kernel_rfl):AO P k ops Q ds (⟨d,.call ⟨.value (.func f),ars,ts⟩,ty,ps,ed,some (jj,want)⟩::r) ⟨n,e,st⟩:=zd hbw hb hc ha hf hv hg hk
theorem KA (l2:List α)(he:Ck P T=some ⟨el,size,bytes,zz⟩)(hx:(St.ev ⟨n,e,st⟩ x,st[id]?,l.length)=(.own id g m,some ⟨g,el,size,l.map enc⟩,m))(hel:EL st (St.ev ⟨n,e,st⟩ y) (l2.map enc))(ha:Sh.app l l2 bytes=some l')
  (hk:AO P k ops Q (ds++[some t]) r ⟨n,EW e t (.own id (g+1) l'.length),st.set id ⟨g+1,el,size,l'.map enc⟩⟩) (hs :∀a,(enc a).length=size:=by exact λ_=>rfl):AO P k ops Q ds (⟨some t,.call ⟨.builtin .append,#[x,y],#[T,T]⟩,ty,ps,ed,none⟩::r) ⟨n,e,st⟩:=by
 simp only[wE]at hx;exact I4 BJ he hx.1 hx.2.1 hx.2.2.symm rfl hel hs ha rfl hk
theorem Ls (he:Ck P T=some ⟨el,size,bytes,zz⟩)(hx:(s.ev x,s.st[id]?,l.length,s.ev y)=(.own id g m,some ⟨g,el,size,l.map enc⟩,m,.int kk j))(hg:Sh.get l j=some u):AQ P s (.indexAddr T x y) (.ptr id g j.toNat 0):=by
 simp only[wE]at hx;exact L7 he hx.1 hx.2.2.2 hx.2.1 hx.2.2.1.symm hg
theorem Hl (he:Ck P T=some ⟨el,size,bytes,zz⟩)(hx:(s.ev x,s.ev y)=(.sl (l.map enc),.int kk j))(hg:Sh.get l j=some u)(hs:(enc u).length=size:=by exact rfl):AQ P s (.indexAddr T x y) (.Bj (enc u) 0):=by
 simp only[wE]at hx;exact Vb he hx.1 hx.2 hg hs
theorem Da {st1 st':List Row}{L:List (Nat×AV)}(sel:List Nat)(hs:SR sel st1 st')(h:ME (λt=>L0 sel (e t)) L)(hp:Ca st sel=st1:=by exact rfl)(hc:dB k st.length sel=true:=by exact rfl):Wk k ⟨n,e,st⟩ ⟨n,AJ L,st'⟩:=Wk.pq sel hc hp hs h
theorem Bf {st':List Row}{L:List (Nat×AV)}(sel:List Nat)(hs:SR sel st' st')(h:ME (λt=>L0 sel (e t)) L)(hp:Ca st sel=st':=by exact rfl)(hc:dB k st.length sel=true:=by exact rfl):Wk k ⟨n,e,st⟩ ⟨n,AJ L,st'⟩:=Je sel hc hp hs h
theorem DY (L:List (Nat×AV))(h:ME e L):Wk k ⟨n,e,st⟩ ⟨n,AJ L,st⟩:=FJ h
end
end Go.Abs
namespace Go.Abs
open Go
theorem ek {P:Program}{s:St}{f:FuncId}{args:List AV}{R:AV->List Row->Prop}{k:Nat}(h:BW P f args [] R)(hf:args.all flat=true)
  {F F1:Nat->Prop} {os:List Own} {a:Act} {w:World} {vs:List Value} (hr:Rel F os s a w) (hF1 :∀b,F b->F1 b) (hown :∀b,F1 b->F b∨∃(i:Nat) (o:Own),os[i]?=some o/\o.owns b) (hargs:Bc F1 w os args vs) :
  Calls P f vs.toArray w λe w'=>∃u r st' F' os1,e=.returned u/\R r st'/\Rel F os s a w'/\FN F' os1 st' w'/\Ae F' w' os1 r u/\(∀b,F b->F' b)/\Ext F os w F os w' k/\
   (∀(i:Nat) (o:Own),os[i]?=some o->∀b,o.owns b->∀o1:Own,o1∈os1->¬ o1.owns b)/\∀b,b<w.heap.size->¬ F b->(∀o:Own,o∈os->¬ o.owns b)->∀o1:Own,o1∈os1->¬ o1.owns b:=by
 have hlt:∀(i:Nat) (o:Own) b,os[i]?=some o->o.owns b->b<w.heap.size:=λi o b hi hb=>(hr.rows i o hi).lt hb;have hold1:∀b,F1 b->b<w.heap.size:=λb hb=>by
  rcases hown b hb with hb|⟨i,o,ho,hob⟩
  ·exact hr.GK b hb
  ·exact hlt i o b ho hob
 refine (h F1 [] w vs (FN.nil hold1) (R0 hf [] hargs)).mono ?_;rintro e w' ⟨u,r,st',F',os1,rfl,hR,hs,hru,he⟩;have zh:∀(i:Nat) (o:Own),os[i]?=some o->∀b,o.owns b->w'.heap[b]?=w.heap[b]?/\∀o1:Own,o1∈os1->¬ o1.owns b:=λi o ho b hb=>by
  by_cases h1:F1 b
  ·refine⟨he.Jx b h1,λo1 ho1 e=>?_⟩;obtain⟨j,hj⟩:=vF.1 ho1;exact (hs.rows j o1 hj).nF e (he.RN b h1)
  ·obtain⟨f1,_,f3⟩:=he.other b (hlt i o b ho hb) h1 (by simp);exact⟨f1,f3⟩
 have AAC:∀x v,Ae F w os x v->Ae F w' os x v:=λx v h=>D8 (λ_ h=>h) (λb hb=>he.Jx b (hF1 b hb)) os os (Er.refl os) x v h;have hr':Rel F os s a w':=⟨hr.st,λt=>AAC _ _ (hr.env t),hr.size,λi o ho=>by
   have zp:=hr.rows i o ho;refine⟨zp.pos,zp.lens,zp.none,λb hb=>?_,λb hb=>⟨(zp.mo b hb).1,vi (zp.mo b hb).2.1 he.size,(zp.mo b hb).2.2⟩,zp.deep.keep rfl (λ_ h=>h) rfl (λb hb=>(zh i o ho b hb).1) (λi x j e s ys hx hc=>⟨x,hx,hc⟩)⟩;obtain⟨e1,cur,e2,e3,e4,e5,e6⟩:=zp.some b hb;exact⟨e1,cur,by rw[(zh i o ho b (.inl hb)).1];exact e2,e3,e4,e5,λi' x hx j c hc=>by obtain⟨u,f1,f2⟩:=e6 i' x hx j c hc;exact⟨u,f1,AAC _ _ f2⟩⟩,
  hr.inj,λb hb=>vi (hr.GK b hb) he.size,hr.defers⟩
 have hoth:∀b,b<w.heap.size->¬ F b->(∀o:Own,o∈os->¬ o.owns b)->w'.heap[b]?=w.heap[b]?/\∀o1:Own,o1∈os1->¬ o1.owns b:=λb hb e1 e2=>by
  have hnF1:¬ F1 b:=λh=>(hown b h).elim e1 (λ⟨i,o,ho,hob⟩=>e2 o (uL ho) hob);obtain⟨f1,_,f3⟩:=he.other b hb hnF1 (by simp);exact⟨f1,f3⟩
 exact⟨u,r,st',F',os1,rfl,hR,hr',hs,hru,λb hb=>he.RN b (hF1 b hb),
  ⟨he.sys,he.tape,he.output,he.size,λ_ h=>h,λb hb=>he.Jx b (hF1 b hb),λb hb e1 e2=>⟨(hoth b hb e1 e2).1,e1,e2⟩,λi o _ ho=>⟨o,ho,uq _,rfl,λ_=>⟨rfl,rfl,rfl⟩⟩⟩,
  λi o ho b hb=>(zh i o ho b hb).2,λb hb e1 e2=>(hoth b hb e1 e2).2⟩
section
variable {P : Program} {k : Nat} {ops : Array Oper} {Q : Exit -> St -> Prop} {ds : List (Option Tmp)} {r : List Oper} {n : Nat} {e : Nat -> AV} {st st' : List Row} {α : Type} {enc : α -> List AV} {la lr : List α} {B : List (List AV)} {gd : Option (Nat × Bool)} {t : Tmp} {x : Operand}
variable {f : FuncId} {q ia gQ gA nA m szA size : Nat} {elQ elA el ty : TypeId} {ps : String} {ed : Array Edge} {ts : Array TypeId}
theorem aW {K:St->Prop}(hX:BW P f [.sl [[.sl (la.map enc)],[.sl B]]] [] λv s=>v=.own 0 0 lr.length/\s=[⟨0,el,size,lr.map enc⟩])
  (hq:st[q]?=some ⟨gQ,elQ,1,[[.own ia gA la.length],[.sl B]]⟩) (hA:st[ia]?=some ⟨gA,elA,szA,la.map enc⟩) (he :∀x,∀c∈enc x,Mt c=true/\simple c=true)
  (hk:K (St.put ⟨n,e,st++[⟨0,el,size,lr.map enc⟩]⟩ (some t) (.own st.length 0 lr.length))):callThen P k ⟨n,e,st⟩ f [.own q gQ 2] (some t) K:=by
 have hpure:∀l:List α,Gm (l.map enc):=λl x hx c hc=>by
  obtain⟨y,_,rfl⟩:=uw.1 hx;exact (he y c hc).2
 intro F os a w vs hr hl;simp only[Bc]at hl;obtain⟨u,_,rfl,hu,rfl⟩:=hl;obtain⟨oA,hoA,hrA⟩:=hr.row hA;obtain⟨oQ,hoQ,hrQ⟩:=hr.row hq;have kQ:=hr.rows q oQ hoQ;simp only[Ae]at hu;obtain⟨oQ',hoQ',_,_,hu⟩:=hu;rw[hoQ]at hoQ';cases hoQ';obtain⟨_,hu⟩:=hu (by rw[hrQ]);rw[hrQ]at hu;simp only[vD,vl,wX,xI,xO]at hu;obtain⟨bq,hbq,rfl⟩ :∃bq,oQ.Ea=some bq/\u=.slice (some ⟨bq,0,none⟩) 2 oQ.cap:=by
  rcases hu with ⟨hb,_⟩|h
  ·have:=(kQ.none hb).1;rw[hrQ]at this;simp at this
  ·exact h
 obtain⟨_,curQ,hcurQ,hszQ,hleQ,_,hcQ⟩:=kQ.some bq hbq;rw[hrQ]at hcurQ hszQ hleQ hcQ;obtain⟨uA,a1,a2⟩:=hcQ 0 _ rfl 0 _ rfl;obtain⟨uB,b1,b2⟩:=hcQ 1 _ rfl 0 _ rfl
 let F1:Nat->Prop:=λb=>F b∨oQ.owns b∨oA.owns b
 have hF1:∀b,F b->F1 b:=λ_ h=>.inl h;have rA:Ae F1 w [] (.sl (la.map enc)) uA:=by
  have h:=cL hr hF1 hoA (λb hb=>.inr (.inr hb)) (by rw[hrA];exact (hpure la).any) a2 (by rw[hrA]);rw[hrA]at h;dsimp only at h;rw[uZ,wX,vG,jN (hpure la)]at h;exact QD rfl h
 have rB:Ae F1 w [] (.sl B) uB:=QD rfl (D8 hF1 (λ_ _=>rfl) os os (Er.refl os) _ _ b2);have harg:Bc F1 w os [.sl [[.sl (la.map enc)],[.sl B]]] [.slice (some ⟨bq,0,none⟩) 2 oQ.cap]:=by
  simp only[Bc];refine⟨_,[],rfl,?_,rfl⟩;simp only[Ae];refine⟨_,_,rfl,hleQ,λ_=>⟨bq,0,1,rfl,.inr (.inl (.inl hbq)),by simp,?_⟩⟩;simp only[Ie,FU,wS,vd,and_true];refine⟨⟨uA,?_,rfl,rA⟩,⟨uB,?_,rfl,rB⟩⟩
  ·rw[wm w bq _ curQ _ _ hcurQ];exact a1
  ·rw[wm w bq _ curQ _ _ hcurQ];exact b1
 refine (ek (k:=k) hX rfl hr hF1 (λb hb=>?_) harg).mono ?_
 ·rcases hb with hb|hb|hb
  ·exact .inl hb
  ·exact .inr ⟨q,oQ,hoQ,hb⟩
  ·exact .inr ⟨ia,oA,hoA,hb⟩
 rintro e' w' ⟨u',r',st1,F',os1,rfl,⟨rfl,rfl⟩,hr',hs,hru,hFF,hE,hdis,hoth⟩;have AAE:∀x∈lr.map enc,∀c∈x,Mt c=true/\simple c=true:=λx hx c hc=>by
  obtain⟨y,_,rfl⟩:=uw.1 hx;exact he y c hc
 refine⟨u',_,st++[⟨0,el,size,lr.map enc⟩],F,os++os1,rfl,hk,hr'.join hs hFF (λrow zh=>?_) (.inr λrow zh=>?_) hdis,?_,?_⟩
 ·simp only[vQ]at zh;subst zh;exact (hpure lr).any
 ·simp only[vQ]at zh;subst zh;exact λx hx c hc=>(AAE x hx c hc).1
 ·have h:=VG (os:=os) (cZ (F':=F) (x:=.own 0 0 lr.length) rfl hru);rw[hr.len];have e0:shift os.length (.own 0 0 lr.length)=.own os.length 0 lr.length:=by show AV.own _ 0 lr.length=_;congr 1;simp
  rwa [e0]at h
 ·refine⟨hE.sys,hE.tape,hE.output,hE.size,λ_ h=>h,hE.Jx,λb hb e1 e2=>?_,λi o hi ho=>Er.append os os1 i o ho⟩;obtain⟨f1,_,_⟩:=hE.other b hb e1 e2;exact⟨f1,e1,λo ho=>by rcases vJ.1 ho with h|h;exact e2 o h;exact hoth b hb e1 e2 o h⟩
theorem Vy (hg:GO ds gd e)(hb:DP P f=true)(hX:BW P f [.sl [[.sl (la.map enc)],[.sl B]]] [] λv s=>v=.own 0 0 lr.length/\s=[⟨0,el,size,lr.map enc⟩])(hx:St.ev ⟨n,e,st⟩ x=.own q gQ 2)
  (hq:st[q]?=some ⟨gQ,elQ,1,[[.own ia gA nA],[.sl B]]⟩) (hA:st[ia]?=some ⟨gA,elA,szA,la.map enc⟩) (he :∀x,∀c∈enc x,Mt c=true/\simple c=true) (hn:nA=la.length) (hm:st.length=m)
  (hst:st++[⟨0,el,size,lr.map enc⟩]=st') (hk:AO P k ops Q (ds++[some t]) r ⟨n,EW e t (.own m 0 lr.length),st'⟩):AO P k ops Q ds (⟨some t,.call ⟨.value (.func f),#[x],ts⟩,ty,ps,ed,gd⟩::r) ⟨n,e,st⟩:=by
 subst hm;subst hst;subst hn;refine ON hg ?_;rw[N6];refine⟨hb,?_⟩;show callThen P k ⟨n,e,st⟩ f [St.ev ⟨n,e,st⟩ x] (some t) _;rw[hx];exact aW hX hq hA he hk
theorem Y5 {tf:Tmp}{first args:List AV}{d:Option Tmp}{ars:Array Operand}{v v':AV}{rows:List Row}(hg:GO ds gd e)(hfn:e tf=.bd f first)(hb:DP P f=true)(hc:BW P f args [] λr st=>r=v/\st=rows)(ha:first++(ars.toList.map (St.ev ⟨n,e,st⟩)++[])=args)(hf:args.all flat=true)(hp:VT rows)(hv:shift st.length v=v')(hst:st++rows=st')
  (hk:AO P k ops Q (ds++[d]) r (St.put ⟨n,e,st'⟩ d v')):AO P k ops Q ds (⟨d,.call ⟨.value (.tmp tf),ars,ts⟩,ty,ps,ed,gd⟩::r) ⟨n,e,st⟩:=by
 subst hv;subst hst;subst ha;refine ON hg ?_;rw[WK,show (St.mk n e st).env tf=e tf from rfl,hfn];refine⟨hb,Sx hc hf ?_⟩;rintro r st' ⟨rfl,rfl⟩;exact⟨hp.get,hk⟩
end
end Go.Abs
namespace RC
open Go.Abs
theorem dj:∀x,∀c∈eI x,Mt c=true/\simple c=true:=λx c h=>by
 simp only[eI,vQ]at h;subst h;exact⟨rfl,rfl⟩
end RC
