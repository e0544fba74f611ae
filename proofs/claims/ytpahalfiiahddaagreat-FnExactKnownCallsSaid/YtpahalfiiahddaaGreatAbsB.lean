import Derived.Test.YtpahalfiiahddaaGreatAbsA
namespace Go.Abs
open Go
def KN (k:Nat) (Q:Exit→St→Prop) (F:Nat→Prop) (os:List Own) (w:World):Exit→Act→World→Prop:=
 fun e a' w'=>∃s' F' os',Q e s'∧Rel F' os' s' a' w'∧Ext F os w F' os' w' k
def AW (P:Program) (k:Nat) (c:Code) (Q:Exit→St→Prop) (s:St):Prop:=
 ∀F os a w,Rel F os s a w→c.wp P (KN k Q F os w) a w
def VX (K:St→Prop) (Q:Exit→St→Prop):Exit→St→Prop
 | .normal,s=>K s
 | e,s=>Q e s
def Wk (k:Nat) (s s':St):Prop:=
 ∀F os a w,Rel F os s a w→∃F' os',Rel F' os' s' a w∧Ext F os w F' os' w k
theorem Iz (k:Nat) (s:St):Wk k s s:=fun F os _ w h=>⟨F,os,h,Cq F os w k⟩
theorem Wk.trans {k:Nat} {s s' s'':St} (h:Wk k s s') (g:Wk k s' s''):Wk k s s'':=fun F os a w hr=>by
 obtain⟨F1,os1,h1,e1⟩:=h F os a w hr
 obtain⟨F2,os2,h2,e2⟩:=g F1 os1 a w h1
 exact⟨F2,os2,h2,e1.trans e2⟩
variable {P : Program} {k : Nat} {Q : Exit → St → Prop} {s : St}
theorem AW.mono {c:Code} {Q':Exit→St→Prop} (h:AW P k c Q s) (hq :∀e s,Q e s→Q' e s):AW P k c Q' s:=
 fun F os a w hr=>wp_mono (h F os a w hr) fun e _ _ ⟨s',F',os',hQ,hR,hE⟩=>⟨s',F',os',hq e s' hQ,hR,hE⟩
theorem Aa {c:Code} {s':St} (hw:Wk k s s') (h:AW P k c Q s'):AW P k c Q s:=fun F os a w hr=>by
 obtain⟨F1,os1,h1,e1⟩:=hw F os a w hr
 exact wp_mono (h F1 os1 a w h1) fun e _ _ ⟨s2,F2,os2,hQ,hR,hE⟩=>⟨s2,F2,os2,hQ,hR,e1.trans hE⟩
theorem KN.trans {F F':Nat→Prop} {os os':List Own} {w w':World} (he:Ext F os w F' os' w' k) {e:Exit} {a:Act} {w2:World}
  (h:KN k Q F' os' w' e a w2):KN k Q F os w e a w2:=
 let ⟨s2,F2,os2,hQ,hR,hE⟩:=h
 ⟨s2,F2,os2,hQ,hR,he.trans hE⟩
theorem AJ {x y:Code} (h :∀K:St→Prop,(∀s,AW P k y Q s→K s)→AW P k x (VX K Q) s):AW P k (.seq x y) Q s:=by
 intro F os a w hr
 refine wp_seq (wp_mono (h (AW P k y Q) (fun _ h=>h) F os a w hr) ?_)
 rintro e a' w' ⟨s',F',os',hQ,hR,hE⟩
 cases e with
 | normal=>exact wp_mono (hQ F' os' a' w' hR) fun e a2 w2 hp=>hp.trans hE
 | exit id=>exact⟨s',F',os',hQ,hR,hE⟩
 | goto l=>exact⟨s',F',os',hQ,hR,hE⟩
 | ret=>exact⟨s',F',os',hQ,hR,hE⟩
 | panic ch=>exact⟨s',F',os',hQ,hR,hE⟩
 | outgrown=>exact⟨s',F',os',hQ,hR,hE⟩
theorem AN (h:Q .normal s):AW P k .skip Q s:=fun F os _ w hr=>wp_skip ⟨s,F,os,h,hr,Cq _ _ _ _⟩
theorem A0 {id:Nat} (h:Q (.exit id) s):AW P k (.exit id) Q s:=fun F os _ w hr=>wp_exit ⟨s,F,os,h,hr,Cq _ _ _ _⟩
theorem AP (h:Q .ret s):AW P k .ret Q s:=fun F os _ w hr=>wp_ret ⟨s,F,os,h,hr,Cq _ _ _ _⟩
def Vt (id:Nat) (Q:Exit→St→Prop):Exit→St→Prop
 | .exit id',s=>if id'=id then Q .normal s else Q (.exit id') s
 | e,s=>Q e s
theorem Ac {id:Nat} {c:Code} (h:AW P k c (Vt id Q) s):AW P k (.block id c) Q s:=by
 intro F os a w hr
 refine wp_block (wp_mono (h F os a w hr) ?_)
 rintro e a' w' ⟨s',F',os',hQ,hR,hE⟩
 cases e with
 | exit id'=>
  simp only[Exit.inBlock,Vt] at hQ ⊢
  split at hQ <;> rename_i hid
  ·rw[if_pos hid];exact⟨s',F',os',hQ,hR,hE⟩
  ·rw[if_neg hid];exact⟨s',F',os',hQ,hR,hE⟩
 | _=>exact⟨s',F',os',hQ,hR,hE⟩
def Jj:Value→AV
 | .int k n=>.int k n
 | .bool b=>.bool b
 | .string s=>.str s
 | .pointer none=>.Nl
 | .slice none 0 0=>.zc
 | .nilFunc=>.Nk
 | _=>.Dt
def H8:Value→AV
 | .slice none 0 0=>.sl []
 | v=>Jj v
def ofConst:Value→AV
 | .agg cs=>.agg (cs.toList.map H8)
 | v=>Jj v
theorem NA (F:Nat→Prop) (w:World) (os:List Own) (v:Value):Am F w os (Jj v) v:=by
 unfold Jj
 split <;> simp[Am]
theorem Lr (F:Nat→Prop) (w:World) (os:List Own) :∀vs:List Value,BX F w os (vs.map Jj) vs
 | []=>by simp[BX]
 | v :: vs=>by simp only[List.map_cons,BX];exact⟨v,vs,rfl,NA F w os v,Lr F w os vs⟩
theorem IE (F:Nat→Prop) (w:World) (os:List Own) (v:Value):Am F w os (H8 v) v:=by
 unfold H8
 split
 ·simp only[Am];exact⟨none,0,rfl,Nat.le_refl _,by simp⟩
 ·exact NA F w os _
theorem Nb (F:Nat→Prop) (w:World) (os:List Own) :∀vs:List Value,BX F w os (vs.map H8) vs
 | []=>by simp[BX]
 | v :: vs=>by simp only[List.map_cons,BX];exact⟨v,vs,rfl,IE F w os v,Nb F w os vs⟩
theorem TG (F:Nat→Prop) (w:World) (os:List Own) (v:Value):Am F w os (ofConst v) v:=by
 unfold ofConst
 split
 ·simp only[Am];exact⟨_,by simp,Nb F w os _⟩
 ·exact NA F w os v
def St.ev (s:St):Operand→AV
 | .tmp t=>s.env t
 | .const v=>ofConst v
 | .global _=>.Dt
 | .func f=>.fn f []
theorem Rel.ev {F:Nat→Prop} {os:List Own} {a:Act} {w:World} (h:Rel F os s a w) (x:Operand):Am F w os (s.ev x) (a.eval x):=by
 cases x with
 | tmp t=>exact h.env t
 | const v=>exact TG F w os v
 | global g=>simp[St.ev,Am]
 | func f=>simp only[St.ev,Am];exact⟨[],rfl,by simp[BX]⟩
def St.put (s:St) (d:Option Tmp) (v:AV):St:=
 match d with
 | none=>s
 | some d=>{ s with env:=Eh s.env d v }
def Da (n:Nat):Option Tmp→Bool
 | none=>true
 | some d=>d < n
theorem Rel.put {F:Nat→Prop} {os:List Own} {a:Act} {w:World} (h:Rel F os s a w) {d:Option Tmp} (hd:Da s.n d=true) {v:AV} {u:Value} (hv:Am F w os v u) :
  Rel F os (s.put d v) (a.put d u) w:=by
 cases d with
 | none=>exact h
 | some d=>
  simp only[Da,decide_eq_true_eq] at hd
  refine⟨h.st,fun j=>?_,by simp[Act.put,St.put,h.size],h.rows,h.inj,h.En,h.defers⟩
  simp only[St.put,Eh,Act.put,Array.getD_eq_getD_getElem?]
  by_cases hj:j=d
  ·subst hj
   rw[if_pos rfl,Array.getElem?_setIfInBounds_self_of_lt (by rw[h.size];exact hd)]
   exact hv
  ·rw[if_neg hj,Array.getElem?_setIfInBounds_ne (Ne.symm hj)]
   have:=h.env j
   rwa [Array.getD_eq_getD_getElem?] at this
theorem Rel.un {F:Nat→Prop} {os:List Own} {a:Act} {w:World} (h:Rel F os s a w) {d:Option Tmp} (hd:Da s.n d=true):Rel F os (s.put d .un) (a.put d undef) w:=
 h.put hd (by simp[Am])
def Xt (v:AV) (K:Bool→Prop):Prop:=
 match v with
 | .bool b=>K b
 | _=>False
theorem AW.cond {c:Operand} {x y:Code} (h :∀K1 K2:Prop,(AW P k x Q s→K1)→(AW P k y Q s→K2)→Xt (s.ev c) fun b=>(b=true→K1)∧(b=false→K2)):AW P k (.cond c x y) Q s:=by
 intro F os a w hr
 have h1:=h _ _ id id
 have h2:=hr.ev c
 generalize s.ev c=v at h1 h2
 cases v <;> simp only[Xt] at h1
 rename_i b
 simp only[Am] at h2
 refine wp_cond h2 ?_
 cases b
 ·exact h1.2 rfl F os a w hr
 ·exact h1.1 rfl F os a w hr
end Go.Abs

