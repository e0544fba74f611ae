import Derived.Test.YtpahalfiiahddaaGreatAbsU

namespace Go.Abs
open Go
theorem Ms {P:Program} {o:Oper} {a:Act} {w:World} {next:Act→World→Prop} {Q Q':Exit→Act→World→Prop} (hp :∀c a w,Q (.panic c) a w→Q' (.panic c) a w) (ho:LetsOut Q→LetsOut Q') (h:o.wp P a w next Q):o.wp P a w next Q':=by
 unfold Oper.wp at *
 generalize (execOp a.eval o).run P w=r at *
 cases r with
 | ok n w'=>
  cases n <;> simp only[Oper.upon] at h ⊢
  case value=>exact h
  case skip=>exact h
  case defer=>exact h
  case enter f args=>
   refine Calls.mono h fun e w'' he=>?_
   cases e with
   | returned u=>exact he
   | panicked c=>exact hp _ _ _ he
   | outgrown=>exact ho he
  case row=>exact h
 | halt x w'=>
  cases x <;> simp only[Oper.upon] at h ⊢
  case panic u=>exact hp _ _ _ h
section
variable {P : Program} {k : Nat} {ops : Array Oper} {Q : Exit → St → Prop} {N f i : Nat} {listed : Array Bool} {s s' : St} {o : Oper}
def Lu (k:Nat) (Q:Exit→St→Prop) (F:Nat→Prop) (os:List Own) (w:World):Exit→Act→World→Prop:=KV k (fun e s'=>e=.normal∧Q e s') F os w
def AX (P:Program) (k:Nat) (ops:Array Oper) (Q:Exit→St→Prop) (N f:Nat) (listed:Array Bool) (s:St):Prop:=
 s.n=N∧∀F0 os0 w0 F os a w,Rel F os s a w→Ext F0 os0 w0 F os w k→wpAny P .any ops (Lu k Q F0 os0 w0) f listed a w
def Da (P:Program) (k:Nat) (ops:Array Oper) (Q:Exit→St→Prop) (N f:Nat) (listed:Array Bool) (s:St) (i:Nat):Prop:=
 ∀F0 os0 w0 F os a w,Rel F os s a w→Ext F0 os0 w0 F os w k→wpOp P ops (Lu k Q F0 os0 w0) i (wpAny P .any ops (Lu k Q F0 os0 w0) f (listed.setIfInBounds i true)) a w
def aN (P:Program) (k:Nat) (ops:Array Oper) (Q:Exit→St→Prop) (N f:Nat) (listed:Array Bool) (s:St):List Nat→Prop
 | []=>True
 | i :: r=>Da P k ops Q N f listed s i∧aN P k ops Q N f listed s r
theorem aN.get :∀{l:List Nat},aN P k ops Q N f listed s l→∀i∈l,Da P k ops Q N f listed s i
 | j :: r,h,i,hi=>by
  rcases List.mem_cons.1 hi with rfl | hi
  ·exact h.1
  ·exact aN.get h.2 i hi
theorem DM (rs:List Nat) (hn:s.n=N) (hr:Region.ready .any ops listed=rs) (hne:rs≠[]) (h:aN P k ops Q N f listed s rs):AX P k ops Q N (f+1) listed s:=
 ⟨hn,fun F0 os0 w0 F os a w hrel he=>wpAny_all hr hne fun i hi=>h.get i hi F0 os0 w0 F os a w hrel he⟩
theorem G0 (hn:s.n=N) (hr:Region.ready .any ops listed=[]) (h:Q .normal s):AX P k ops Q N f listed s:=
 ⟨hn,fun _ _ _ F os a w hrel he=>wpAny_done hr ⟨s,F,os,⟨rfl,h⟩,hrel,he⟩ f⟩
theorem An (hw:Wk k s s') (h:AX P k ops Q N f listed s') (hn:s.n=N):AX P k ops Q N f listed s:=
 ⟨hn,fun F0 os0 w0 F os a w hrel he=>by
  obtain⟨F1,os1,h1,e1⟩:=hw F os a w hrel
  exact h.2 F0 os0 w0 F1 os1 a w h1 (he.trans e1)⟩
def L3 (o:Oper) (i:Nat):Bool:=match o.guard with
 | none=>true
 | some (j,_)=>decide (j < i+1)
theorem Da.of (ho:ops[i]?=some o) (hg:L3 o i=true) (hd:(ops.toList.all fun o=>Cu s.n o.dst)=true)
  (h:AO P k (ops.extract 0 (i+1)) (fun e s'=>e=.normal∧AX P k ops Q N f (listed.setIfInBounds i true) s') ((ops.toList.take i).map (·.dst)) [o] s):Da P k ops Q N f listed s i:=by
 intro F0 os0 w0 F os a w hrel he
 have hi:i < ops.size:=(Array.getElem?_eq_some_iff.1 ho).1
 have hex :∀j,(ops.extract 0 (i+1))[j]?=if j < i+1 then ops[j]? else none:=fun j=>by
  rw[Array.getElem?_extract]
  split <;> split <;> simp_all <;> omega
 have h1:=h (fun j=>by
   have hlen:((ops.toList.take i).map (·.dst)).length=i:=by simp;omega
   rw[hlen,hex]
   cases j with
   | zero=>simp[ho]
   | succ j=>rw[if_neg (by omega)];simp) (fun j d hj=>by
   simp only[List.getElem?_map,List.getElem?_take] at hj
   split at hj
   ·rw[hex,if_pos (by omega)];simpa using hj
   ·cases hj) (fun o' ho'=>by
   obtain⟨j,hj⟩:=List.mem_iff_getElem?.1 ho'
   rw[Array.getElem?_toList,hex] at hj
   split at hj
   ·exact List.all_eq_true.1 hd o' (List.mem_of_getElem? (i:=j) (by simpa using hj))
   ·cases hj) F os a w hrel (fun e a' w'=>e=.normal∧wpAny P .any ops (Lu k Q F0 os0 w0) f (listed.setIfInBounds i true) a' w') (by
   rintro e a' w' ⟨s',F',os',⟨rfl,hax⟩,hr',he'⟩
   exact⟨rfl,hax.2 F0 os0 w0 F' os' a' w' hr' (he.trans he')⟩)
 have hy:Region.wanted o (yielded (ops.extract 0 (i+1)) a.tmps)=Region.wanted o (yielded ops a.tmps):=by
  unfold Region.wanted
  unfold L3 at hg
  cases hgd:o.guard with
  | none=>rfl
  | some p=>
   obtain⟨j,want⟩:=p
   rw[hgd] at hg
   simp only[decide_eq_true_eq] at hg
   simp only[yielded,hex,if_pos hg]
 unfold wpList at h1
 unfold wpOp
 simp only[ho]
 rw[hy] at h1
 split at h1
 ·rename_i hw
  rw[if_pos hw]
  rcases h1 with h1 | ⟨_,a1,w1,h1,_⟩
  ·refine .inl (Oper.wp_mono (fun a' w' h'=>?_) (Ms (fun c a' w' h'=>?_) (fun h'=>?_) h1))
   ·exact h'.2
   ·exact nomatch h'.1
   ·obtain⟨_,_,h2,_⟩:=h';exact nomatch h2
  ·exact nomatch h1
 ·rename_i hw
  rw[if_neg hw]
  exact h1.2
def Ph (P:Program) (s:St) (o:Oper) (v:AV):Prop:=
 o.guard=none∧∀F os a w,Rel F os s a w→∃u,(∀w',(execOp a.eval o).run P w'=.ok (.value u) w')∧Ae F w os v u
theorem Bq (i:Nat) {v:AV} (hn:s.n=N) (ho:ops[i]?=some o) (hs:Region.noSelect ops=true) (hf:Region.free .any ops listed i=true) (hr:(Region.ready .any ops listed).contains i=true) (hd:Cu s.n o.dst=true) (hh:Ph P s o v)
  (h:AX P k ops Q N f (listed.setIfInBounds i true) (s.put o.dst v)):AX P k ops Q N (f+1) listed s:=
 ⟨hn,fun F0 os0 w0 F os a w hrel he=>by
  obtain⟨hg,hh⟩:=hh
  obtain⟨u,hu,hv⟩:=hh F os a w hrel
  refine wpAny_take ho hs hf hr (fun c a w ⟨_,_,_,hp,_⟩=>nomatch hp.1) (.inl ⟨by unfold Region.wanted;rw[hg],hu⟩) ?_
  exact h.2 F0 os0 w0 F os _ w (hrel.put hd hv) he⟩
theorem Hh {id:Nat} (hm:P.follows .mixedOrders=true) (h:AX P k ops Q s.n ops.size (Array.replicate ops.size false) s):AW P k (.region id ops true) Q s:=by
 refine AW.mono (Q:=fun e s'=>e=.normal∧Q e s') ?_ fun e s' hq=>hq.2
 intro F os a w hr
 obtain⟨hr1,he1⟩:=hr.drew (k:=k)
 refine wp_region_any hm ?_
 exact h.2 F os w F os a w.drew hr1 he1
end
section
variable {P : Program} {n : Nat} {e : Nat → AV} {st : List Row} {t : Tmp} {ty : TypeId} {ps : String} {ed : Array Edge} {x : Operand} {v : AV}
theorem CR (h:St.ev ⟨n,e,st⟩ x=v):Ph P ⟨n,e,st⟩ ⟨some t,.move x,ty,ps,ed,none⟩ v:=
 ⟨rfl,fun _ _ a _ hr=>⟨a.eval x,fun _=>rfl,h ▸ hr.ev x⟩⟩
theorem MO (h:St.ev ⟨n,e,st⟩ x=v):Ph P ⟨n,e,st⟩ ⟨some t,.assign x,ty,ps,ed,none⟩ v:=
 ⟨rfl,fun _ _ a _ hr=>⟨a.eval x,fun _=>rfl,h ▸ hr.ev x⟩⟩
end
theorem C9 {k n:Nat} {e:Nat→AV} {st st':List Row} (h:st=st'):Wk k ⟨n,e,st⟩ ⟨n,e,st'⟩:=h ▸ Wk.refl _ _
section
variable {P : Program} {k : Nat}
variable {ops : Array Oper} {Q : Exit → St → Prop} {ds : List (Option Tmp)} {r : List Oper} {n : Nat} {e : Nat → AV} {st st' : List Row} {ty : TypeId} {ps : String} {ed : Array Edge} {d : Option Tmp} {v v' : AV} {gd : Option (Nat × Bool)}
variable {f : FuncId} {ars : Array Operand} {ts : Array TypeId} {args args' : List AV} {rowsP rows0 rows1 rows1' rows2 rows2' : List Row}
theorem To {tf:Tmp} {caps:List AV} (sel:List Nat) (hg:GO ds gd e) (hfn:e tf=.fn f caps) (hb:DI P f=true) (hc:Aa P f args' rows0 fun r st=>r=v∧st=rows1 ++ rows2) (ha:ars.toList.map (St.ev ⟨n,e,st⟩) ++ caps=args) (hnd:sel.Nodup) (hlt:sel.all (· < st.length)=true)
  (hp:CG st sel=rowsP) (hs:SR sel rowsP rows0) (hf:args.map (Jm sel)=args') (hlen:rows1.length=sel.length) (h1:UN sel st.length rows1 rows1') (h2:UN sel st.length rows2 rows2') (hv:UQ sel st.length v=v') (hst':G6 sel rows1' 0 st ++ rows2'=st')
  (hk:AO P k ops Q (ds ++ [d]) r (St.put ⟨n,e,st'⟩ d v')):AO P k ops Q ds (⟨d,.call ⟨.value (.tmp tf),ars,ts⟩,ty,ps,ed,gd⟩ :: r) ⟨n,e,st⟩:=by
 subst hst';subst ha;subst hv;subst hp
 refine Ks hg ?_
 rw[V1,show (St.mk n e st).env tf=e tf from rfl,hfn]
 refine⟨hb,K0 fun hle=>?_⟩
 obtain⟨e1,e2⟩:=hs.spec (st0:=st) hle (fun row hrow=>by
  obtain⟨i,_,hi⟩:=List.mem_filterMap.1 hrow
  exact List.mem_of_getElem? hi)
 refine Lm sel hc hnd (fun i hi=>by simpa using List.all_eq_true.1 hlt i hi) e1 e2 hf hlen (fun row hrow=>by
  rcases List.mem_append.1 hrow with h | h
  ·exact h1.leaf row h
  ·exact h2.leaf row h) fun _=>?_
 simp only[h1.spec,h2.spec]
 exact hk
end
theorem BY {P:Program} {s:St} {x y:Operand} {t:TypeId} {kk:IntKind} {α:Type} {l:List α} {enc:α→List AV} {n:Int} {u:α} {el size bytes:Nat} {zz cs:List AV} (he:By P t=some ⟨el,size,bytes,zz⟩) (hx:s.ev x=.sl (l.map enc)) (hy:s.ev y=.int kk n) (hg:Sh.get l n=some u) (hq:enc u=cs) (hs:cs.length=size) :
  AQ P s (.indexAddr t x y) (.Bd cs 0):=by subst hq;exact FC he hx hy hg hs
theorem Ve {P:Program} {k:Nat} {c:Code} {Q:Exit→St→Prop} {s:St} (h :∀K:St→Prop,(∀s',Q .normal s'→K s')→AW P k c (I0 K Q) s):AW P k c Q s:=
 (h (fun s'=>Q .normal s') fun _ h=>h).mono fun e s' hq=>by cases e <;> exact hq
end Go.Abs

