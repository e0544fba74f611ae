import Derived.Test.YtgiajkaabnbieaaGreatGAbsZPToSSDefs
set_option linter.all false
namespace RC
open Go Go.Abs
theorem Ic {α:Type}{l:List α}{enc:α->List AV}(h :∀y,(enc y).all QF=true):UE (l.map enc):=λy hy c hc=>by
 obtain⟨z,_,rfl⟩:=mU.1 hy;exact mL.1 (h z) c hc
section
variable {P : Program} {s : St} {x y : Operand} {t el : TypeId} {size bytes id g m : Nat} {zz : List AV} {xs : List (List AV)} {n : Int} {kk : IntKind}
theorem PA (he:Cj P t=some ⟨el,size,bytes,zz⟩)(hx:s.ev x=.own id g m)(hy:s.ev y=.int kk n)(hr:s.st[id]?=some ⟨g,el,size,xs⟩)(h0:0<=n)(h1:n<m)(hm:m=xs.length):
  AQ P s (.indexAddr t x y) (.ptr id g n.toNat 0):=λK hk=>by
 show KP P s.st t (s.ev x) (s.ev y) K;rw[hx,hy];exact Ak _ he ⟨h0,h1,Ak _ hr ⟨rfl,rfl,by subst hm;simpa using hk⟩⟩
end
end RC
namespace RC
open Go Go.Abs
def mix {α:Type}(e1 e2:α->List AV)(k:Nat)(l:List α):List (List AV):=(l.take k).map e1++(l.drop k).map e2
section
variable {α : Type} {e1 e2 : α -> List AV} {k : Nat} {l : List α}
theorem Gg:(mix e1 e2 k l).length=l.length:=by simp[mix];omega
theorem X3:mix e1 e2 0 l=l.map e2:=by simp[mix]
theorem Xn (h:l.length<=k):mix e1 e2 k l=l.map e1:=by
 simp[mix,nv h,oN h]
theorem WQ {c:α}(h:l[k]?=some c):(mix e1 e2 k l)[k]?=some (e2 c):=by
 obtain⟨hk,rfl⟩:=mC.1 h;unfold mix;rw[mP (by simp;omega)];simp only[mO,nT,nz (Nat.le_of_lt hk),oP,mG,nP,oc,mH hk,nC]
theorem ZW {c d:α}(h:l[k]?=some c):(mix e1 e2 k l).set k (e1 d)=mix e1 e2 (k+1) (l.set k d):=by
 obtain⟨hk,rfl⟩:=mC.1 h;unfold mix;rw[List.set_append_right _ _ (by simp;omega)];simp only[mO,nT,nz (Nat.le_of_lt hk),oP];rw[pC hk,mg,List.set_cons_zero];rw[List.take_add_one,oY (mS k),List.drop_set_of_lt (by omega)];simp[hk]
theorem Ta (h1 :∀y,(e1 y).all Em=true)(h2 :∀y,(e2 y).all Em=true):DF (mix e1 e2 k l):=λx hx c hc=>by
 unfold mix at hx;rcases my.1 hx with h|h
 ·obtain⟨y,_,rfl⟩:=mU.1 h;exact mL.1 (h1 y) c hc
 ·obtain⟨y,_,rfl⟩:=mU.1 h;exact mL.1 (h2 y) c hc
end
theorem O2 {sel:List Nat}{g el sz:Nat}{xs:List (List AV)}(h:DF xs):CR sel ⟨g,el,sz,xs⟩=⟨g,el,sz,xs⟩:=by
 simp only[CR];congr 1;refine (mj (g:=id) λx hx=>?_).trans (nq _);refine (mj (g:=id) λc hc=>?_).trans (nq _);exact OC (h x hx c hc)
theorem Zj {sel:List Nat}{g el sz i:Nat}{xs:List (List AV)}{x:List AV}(h:DF xs)(hx:x.map (Ku sel)=x):CR sel ⟨g,el,sz,xs.set i x⟩=⟨g,el,sz,xs.set i x⟩:=by
 have h1:=O2 (sel:=sel) (g:=g) (el:=el) (sz:=sz) h;simp only[CR,Row.mk.injEq,true_and]at h1⊢;rw[nt,h1,hx]
theorem VM {n:Nat}{e:Nat->AV}{st st':List Row}{L:List (Nat×AV)}(sel:List Nat)(sy:sel.Nodup)(rJ:sel.all (·<st.length)=true)(hp:Cr st sel=st')(hr :∀row∈st',CR sel row=row)(h:ME (λt=>Ke sel (e t)) L):
  Wk 0 ⟨n,e,st⟩ ⟨n,AN L,st'⟩:=λF os a w rT=>by
 have hle:=Qk rT;refine WR sel rfl sy rJ (by rw[hp];exact (mj hr).trans (nq _)) (λrow qo=>?_) h F os a w rT;rw[<- hp]at qo;obtain⟨i,_,hi⟩:=nr.1 qo;exact hle row (mB hi)
end RC
