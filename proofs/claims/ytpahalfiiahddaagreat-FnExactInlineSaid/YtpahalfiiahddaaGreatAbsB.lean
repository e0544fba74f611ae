import Derived.Test.YtpahalfiiahddaaGreatAbsA
namespace Go.Abs
open Go
def KV (k:Nat) (Q:Exit→St→Prop) (F:Nat→Prop) (os:List Own) (w:World):Exit→Act→World→Prop:=
 fun e a' w'=>∃s' F' os',Q e s'∧Rel F' os' s' a' w'∧Ext F os w F' os' w' k
def AW (P:Program) (k:Nat) (c:Code) (Q:Exit→St→Prop) (s:St):Prop:=
 ∀F os a w,Rel F os s a w→c.wp P (KV k Q F os w) a w
def I0 (K:St→Prop) (Q:Exit→St→Prop):Exit→St→Prop
 | .normal,s=>K s
 | e,s=>Q e s
def Wk (k:Nat) (s s':St):Prop:=
 ∀F os a w,Rel F os s a w→∃F' os',Rel F' os' s' a w∧Ext F os w F' os' w k
theorem Wk.refl (k:Nat) (s:St):Wk k s s:=fun F os _ w h=>⟨F,os,h,Ext.refl F os w k⟩
theorem Wk.trans {k:Nat} {s s' s'':St} (h:Wk k s s') (g:Wk k s' s''):Wk k s s'':=fun F os a w hr=>by
 obtain⟨F1,os1,h1,e1⟩:=h F os a w hr
 obtain⟨F2,os2,h2,e2⟩:=g F1 os1 a w h1
 exact⟨F2,os2,h2,e1.trans e2⟩
variable {P : Program} {k : Nat} {Q : Exit → St → Prop} {s : St}
theorem AW.mono {c:Code} {Q':Exit→St→Prop} (h:AW P k c Q s) (hq :∀e s,Q e s→Q' e s):AW P k c Q' s:=
 fun F os a w hr=>wp_mono (h F os a w hr) fun e _ _ ⟨s',F',os',hQ,hR,hE⟩=>⟨s',F',os',hq e s' hQ,hR,hE⟩
theorem AM {c:Code} {s':St} (hw:Wk k s s') (h:AW P k c Q s'):AW P k c Q s:=fun F os a w hr=>by
 obtain⟨F1,os1,h1,e1⟩:=hw F os a w hr
 exact wp_mono (h F1 os1 a w h1) fun e _ _ ⟨s2,F2,os2,hQ,hR,hE⟩=>⟨s2,F2,os2,hQ,hR,e1.trans hE⟩
theorem KV.trans {F F':Nat→Prop} {os os':List Own} {w w':World} (he:Ext F os w F' os' w' k) {e:Exit} {a:Act} {w2:World}
  (h:KV k Q F' os' w' e a w2):KV k Q F os w e a w2:=
 let ⟨s2,F2,os2,hQ,hR,hE⟩:=h
 ⟨s2,F2,os2,hQ,hR,he.trans hE⟩
theorem AB {x y:Code} (h :∀K:St→Prop,(∀s,AW P k y Q s→K s)→AW P k x (I0 K Q) s):AW P k (.seq x y) Q s:=by
 intro F os a w hr
 refine wp_seq (wp_mono (h (AW P k y Q) (fun _ h=>h) F os a w hr) ?_)
 rintro e a' w' ⟨s',F',os',hQ,hR,hE⟩
 cases e with
 | normal=>exact wp_mono (hQ F' os' a' w' hR) fun e a2 w2 hp=>hp.trans hE
 | exit id=>exact⟨s',F',os',hQ,hR,hE⟩
 | goto l=>exact⟨s',F',os',hQ,hR,hE⟩
 | ret=>exact⟨s',F',os',hQ,hR,hE⟩
 | panic ch=>exact⟨s',F',os',hQ,hR,hE⟩
 | outgrown=>exact⟨s',F',os',hQ,hR,hE⟩
theorem AG (h:Q .normal s):AW P k .skip Q s:=fun F os _ w hr=>wp_skip ⟨s,F,os,h,hr,Ext.refl _ _ _ _⟩
theorem Ao {id:Nat} (h:Q (.exit id) s):AW P k (.exit id) Q s:=fun F os _ w hr=>wp_exit ⟨s,F,os,h,hr,Ext.refl _ _ _ _⟩
theorem AI (h:Q .ret s):AW P k .ret Q s:=fun F os _ w hr=>wp_ret ⟨s,F,os,h,hr,Ext.refl _ _ _ _⟩
def TO (id:Nat) (Q:Exit→St→Prop):Exit→St→Prop
 | .exit id',s=>if id'=id then Q .normal s else Q (.exit id') s
 | e,s=>Q e s
theorem AP {id:Nat} {c:Code} (h:AW P k c (TO id Q) s):AW P k (.block id c) Q s:=by
 intro F os a w hr
 refine wp_block (wp_mono (h F os a w hr) ?_)
 rintro e a' w' ⟨s',F',os',hQ,hR,hE⟩
 cases e with
 | exit id'=>
  simp only[Exit.inBlock,TO] at hQ ⊢
  split at hQ <;> rename_i hid
  ·rw[if_pos hid];exact⟨s',F',os',hQ,hR,hE⟩
  ·rw[if_neg hid];exact⟨s',F',os',hQ,hR,hE⟩
 | _=>exact⟨s',F',os',hQ,hR,hE⟩
def Kd:Value→AV
 | .int k n=>.int k n
 | .bool b=>.bool b
 | .string s=>.str s
 | .pointer none=>.PG
 | .slice none 0 0=>.zc
 | .nilFunc=>.O1
 | _=>.Eu
def JE:Value→AV
 | .slice none 0 0=>.sl []
 | v=>Kd v
def ofConst:Value→AV
 | .agg cs=>.agg (cs.toList.map JE)
 | v=>Kd v
theorem N7 (F:Nat→Prop) (w:World) (os:List Own) (v:Value):Ae F w os (Kd v) v:=by
 unfold Kd
 split <;> simp[Ae]
theorem Mb (F:Nat→Prop) (w:World) (os:List Own) :∀vs:List Value,BG F w os (vs.map Kd) vs
 | []=>by simp[BG]
 | v :: vs=>by simp only[List.map_cons,BG];exact⟨v,vs,rfl,N7 F w os v,Mb F w os vs⟩
theorem JZ (F:Nat→Prop) (w:World) (os:List Own) (v:Value):Ae F w os (JE v) v:=by
 unfold JE
 split
 ·simp only[Ae];exact⟨none,0,rfl,Nat.le_refl _,by simp⟩
 ·exact N7 F w os _
theorem O2 (F:Nat→Prop) (w:World) (os:List Own) :∀vs:List Value,BG F w os (vs.map JE) vs
 | []=>by simp[BG]
 | v :: vs=>by simp only[List.map_cons,BG];exact⟨v,vs,rfl,JZ F w os v,O2 F w os vs⟩
theorem V6 (F:Nat→Prop) (w:World) (os:List Own) (v:Value):Ae F w os (ofConst v) v:=by
 unfold ofConst
 split
 ·simp only[Ae];exact⟨_,by simp,O2 F w os _⟩
 ·exact N7 F w os v
def St.ev (s:St):Operand→AV
 | .tmp t=>s.env t
 | .const v=>ofConst v
 | .global _=>.Eu
 | .func f=>.fn f []
theorem Rel.ev {F:Nat→Prop} {os:List Own} {a:Act} {w:World} (h:Rel F os s a w) (x:Operand):Ae F w os (s.ev x) (a.eval x):=by
 cases x with
 | tmp t=>exact h.env t
 | const v=>exact V6 F w os v
 | global g=>simp[St.ev,Ae]
 | func f=>simp only[St.ev,Ae];exact⟨[],rfl,by simp[BG]⟩
def St.put (s:St) (d:Option Tmp) (v:AV):St:=
 match d with
 | none=>s
 | some d=>{ s with env:=Dh s.env d v }
def Cu (n:Nat):Option Tmp→Bool
 | none=>true
 | some d=>d < n
theorem Rel.put {F:Nat→Prop} {os:List Own} {a:Act} {w:World} (h:Rel F os s a w) {d:Option Tmp} (hd:Cu s.n d=true) {v:AV} {u:Value} (hv:Ae F w os v u) :
  Rel F os (s.put d v) (a.put d u) w:=by
 cases d with
 | none=>exact h
 | some d=>
  simp only[Cu,decide_eq_true_eq] at hd
  refine⟨h.st,fun j=>?_,by simp[Act.put,St.put,h.size],h.rows,h.inj,h.EO,h.defers⟩
  simp only[St.put,Dh,Act.put,Array.getD_eq_getD_getElem?]
  by_cases hj:j=d
  ·subst hj
   rw[if_pos rfl,Array.getElem?_setIfInBounds_self_of_lt (by rw[h.size];exact hd)]
   exact hv
  ·rw[if_neg hj,Array.getElem?_setIfInBounds_ne (Ne.symm hj)]
   have:=h.env j
   rwa [Array.getD_eq_getD_getElem?] at this
theorem Rel.un {F:Nat→Prop} {os:List Own} {a:Act} {w:World} (h:Rel F os s a w) {d:Option Tmp} (hd:Cu s.n d=true):Rel F os (s.put d .un) (a.put d undef) w:=
 h.put hd (by simp[Ae])
def bK (v:AV) (K:Bool→Prop):Prop:=
 match v with
 | .bool b=>K b
 | _=>False
theorem AW.cond {c:Operand} {x y:Code} (h :∀K1 K2:Prop,(AW P k x Q s→K1)→(AW P k y Q s→K2)→bK (s.ev c) fun b=>(b=true→K1)∧(b=false→K2)):AW P k (.cond c x y) Q s:=by
 intro F os a w hr
 have h1:=h _ _ id id
 have h2:=hr.ev c
 generalize s.ev c=v at h1 h2
 cases v <;> simp only[bK] at h1
 rename_i b
 simp only[Ae] at h2
 refine wp_cond h2 ?_
 cases b
 ·exact h1.2 rfl F os a w hr
 ·exact h1.1 rfl F os a w hr
end Go.Abs

