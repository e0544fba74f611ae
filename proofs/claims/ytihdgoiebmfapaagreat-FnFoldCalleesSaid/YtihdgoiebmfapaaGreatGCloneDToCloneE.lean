import Derived.Test.YtihdgoiebmfapaaGreatGAbsZPToSSDefs
set_option linter.all false
namespace RC
open Go Go.Abs
theorem JI {α:Type}{l:List α}{enc:α->List AV}(h :∀y,(enc y).all QD=true):TC (l.map enc):=λy hy c hc=>by
 obtain⟨z,_,rfl⟩:=mA.1 hy;exact lh.1 (h z) c hc
section
variable {P : Program} {s : St} {x y : Operand} {t el : TypeId} {size bytes id g m : Nat} {zz : List AV} {xs : List (List AV)} {n : Int} {kk : IntKind}
theorem OU (he:Ds P t=some ⟨el,size,bytes,zz⟩)(hx:s.ev x=.own id g m)(hy:s.ev y=.int kk n)(hr:s.st[id]?=some ⟨g,el,size,xs⟩)(h0:0<=n)(h1:n<m)(hm:m=xs.length):
  AQ P s (.indexAddr t x y) (.ptr id g n.toNat 0):=λK hk=>by
 show JS P s.st t (s.ev x) (s.ev y) K;rw[hx,hy];exact Aq _ he ⟨h0,h1,Aq _ hr ⟨rfl,rfl,by subst hm;simpa using hk⟩⟩
end
end RC
namespace RC
open Go Go.Abs
def mix {α:Type}(e1 e2:α->List AV)(k:Nat)(l:List α):List (List AV):=(l.take k).map e1++(l.drop k).map e2
section
variable {α : Type} {e1 e2 : α -> List AV} {k : Nat} {l : List α}
theorem Gh:(mix e1 e2 k l).length=l.length:=by simp[mix];omega
theorem Xs:mix e1 e2 0 l=l.map e2:=by simp[mix]
theorem Xy (h:l.length<=k):mix e1 e2 k l=l.map e1:=by
 simp[mix,mX h,nv h]
theorem Wr {c:α}(h:l[k]?=some c):(mix e1 e2 k l)[k]?=some (e2 c):=by
 obtain⟨hk,rfl⟩:=lV.1 h;unfold mix;rw[ln (by simp;omega)];simp only[ly,nq,oW (Nat.le_of_lt hk),nW,lW,mU,nw,lZ hk,mZ]
theorem Z1 {c d:α}(h:l[k]?=some c):(mix e1 e2 k l).set k (e1 d)=mix e1 e2 (k+1) (l.set k d):=by
 obtain⟨hk,rfl⟩:=lV.1 h;unfold mix;rw[ot _ _ (by simp;omega)];simp only[ly,nq,oW (Nat.le_of_lt hk),nW];rw[List.drop_eq_getElem_cons hk,mF,oZ];rw[List.take_add_one,pH (ll k),List.drop_set_of_lt (by omega)];simp[hk]
theorem Tb (h1 :∀y,(e1 y).all Ee=true)(h2 :∀y,(e2 y).all Ee=true):DG (mix e1 e2 k l):=λx hx c hc=>by
 unfold mix at hx;rcases lz.1 hx with h|h
 ·obtain⟨y,_,rfl⟩:=mA.1 h;exact lh.1 (h1 y) c hc
 ·obtain⟨y,_,rfl⟩:=mA.1 h;exact lh.1 (h2 y) c hc
end
theorem O7 {sel:List Nat}{g el sz:Nat}{xs:List (List AV)}(h:DG xs):Cm sel ⟨g,el,sz,xs⟩=⟨g,el,sz,xs⟩:=by
 simp only[Cm];congr 1;refine (mH (g:=id) λx hx=>?_).trans (nH _);refine (mH (g:=id) λc hc=>?_).trans (nH _);exact Nn (h x hx c hc)
theorem ZO {sel:List Nat}{g el sz i:Nat}{xs:List (List AV)}{x:List AV}(h:DG xs)(hx:x.map (Ko sel)=x):Cm sel ⟨g,el,sz,xs.set i x⟩=⟨g,el,sz,xs.set i x⟩:=by
 have h1:=O7 (sel:=sel) (g:=g) (el:=el) (sz:=sz) h;simp only[Cm,Row.mk.injEq,true_and]at h1⊢;rw[nj,h1,hx]
theorem VQ {n:Nat}{e:Nat->AV}{st st':List Row}{L:List (Nat×AV)}(sel:List Nat)(sC:sel.Nodup)(qw:sel.all (·<st.length)=true)(hp:Cc st sel=st')(hr :∀row∈st',Cm sel row=row)(h:ME (λt=>KT sel (e t)) L):
  Wk 0 ⟨n,e,st⟩ ⟨n,Aa L,st'⟩:=λF os a w hrel=>by
 have hle:=Nv hrel;refine V6 sel rfl sC qw (by rw[hp];exact (mH hr).trans (nH _)) (λrow qc=>?_) h F os a w hrel;rw[<- hp]at qc;obtain⟨i,_,hi⟩:=mu.1 qc;exact hle row (lT hi)
end RC
