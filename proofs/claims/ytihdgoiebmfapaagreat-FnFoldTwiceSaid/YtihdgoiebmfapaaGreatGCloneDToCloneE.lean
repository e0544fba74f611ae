import Derived.Test.YtihdgoiebmfapaaGreatGAbsZPToSSDefs
set_option linter.all false
namespace RC
open Go Go.Abs
theorem I1 {α:Type}{l:List α}{enc:α->List AV}(h :∀y,(enc y).all PO=true):Sy (l.map enc):=λy hy c hc=>by
 obtain⟨z,_,rfl⟩:=kC.1 hy;exact jq.1 (h z) c hc
section
variable {P : Program} {s : St} {x y : Operand} {t el : TypeId} {size bytes id g m : Nat} {zz : List AV} {xs : List (List AV)} {n : Int} {kk : IntKind}
theorem OR (he:D2 P t=some ⟨el,size,bytes,zz⟩)(hx:s.ev x=.own id g m)(hy:s.ev y=.int kk n)(hr:s.st[id]?=some ⟨g,el,size,xs⟩)(h0:0<=n)(h1:n<m)(hm:m=xs.length):
  AQ P s (.indexAddr t x y) (.ptr id g n.toNat 0):=λK hk=>by
 show JB P s.st t (s.ev x) (s.ev y) K;rw[hx,hy];exact Ap _ he ⟨h0,h1,Ap _ hr ⟨rfl,rfl,by subst hm;simpa using hk⟩⟩
end
end RC
namespace RC
open Go Go.Abs
def mix {α:Type}(e1 e2:α->List AV)(k:Nat)(l:List α):List (List AV):=(l.take k).map e1++(l.drop k).map e2
section
variable {α : Type} {e1 e2 : α -> List AV} {k : Nat} {l : List α}
theorem GY:(mix e1 e2 k l).length=l.length:=by simp[mix];omega
theorem W8:mix e1 e2 0 l=l.map e2:=by simp[mix]
theorem Wu (h:l.length<=k):mix e1 e2 k l=l.map e1:=by
 simp[mix,kY h,lz h]
theorem VZ {c:α}(h:l[k]?=some c):(mix e1 e2 k l)[k]?=some (e2 c):=by
 obtain⟨hk,rfl⟩:=jg.1 h;unfold mix;rw[jt (by simp;omega)];simp only[kB,lu,ma (Nat.le_of_lt hk),lW,ji,kW,mA,jl hk,kb]
theorem YZ {c d:α}(h:l[k]?=some c):(mix e1 e2 k l).set k (e1 d)=mix e1 e2 (k+1) (l.set k d):=by
 obtain⟨hk,rfl⟩:=jg.1 h;unfold mix;rw[mw _ _ (by simp;omega)];simp only[kB,lu,ma (Nat.le_of_lt hk),lW];rw[List.drop_eq_getElem_cons hk,kI,mf];rw[List.take_add_one,nG (jv k),List.drop_set_of_lt (by omega)];simp[hk]
theorem Sc (h1 :∀y,(e1 y).all Ed=true)(h2 :∀y,(e2 y).all Ed=true):DD (mix e1 e2 k l):=λx hx c hc=>by
 unfold mix at hx;rcases kJ.1 hx with h|h
 ·obtain⟨y,_,rfl⟩:=kC.1 h;exact jq.1 (h1 y) c hc
 ·obtain⟨y,_,rfl⟩:=kC.1 h;exact jq.1 (h2 y) c hc
end
theorem OK {sel:List Nat}{g el sz:Nat}{xs:List (List AV)}(h:DD xs):Ck sel ⟨g,el,sz,xs⟩=⟨g,el,sz,xs⟩:=by
 simp only[Ck];congr 1;refine (kM (g:=id) λx hx=>?_).trans (lI _);refine (kM (g:=id) λc hc=>?_).trans (lI _);exact NP (h x hx c hc)
theorem YN {sel:List Nat}{g el sz i:Nat}{xs:List (List AV)}{x:List AV}(h:DD xs)(hx:x.map (KC sel)=x):Ck sel ⟨g,el,sz,xs.set i x⟩=⟨g,el,sz,xs.set i x⟩:=by
 have h1:=OK (sel:=sel) (g:=g) (el:=el) (sz:=sz) h;simp only[Ck,Row.mk.injEq,true_and]at h1⊢;rw[ln,h1,hx]
theorem Ul {n:Nat}{e:Nat->AV}{st st':List Row}{L:List (Nat×AV)}(sel:List Nat)(qM:sel.Nodup)(pG:sel.all (·<st.length)=true)(hp:Cc st sel=st')(hr :∀row∈st',Ck sel row=row)(h:ME (λt=>KB sel (e t)) L):
  Wk 0 ⟨n,e,st⟩ ⟨n,Aa L,st'⟩:=λF os a w hrel=>by
 have hle:=NW hrel;refine VC sel rfl qM pG (by rw[hp];exact (kM hr).trans (lI _)) (λrow oY=>?_) h F os a w hrel;rw[<- hp]at oY;obtain⟨i,_,hi⟩:=kz.1 oY;exact hle row (je hi)
end RC
