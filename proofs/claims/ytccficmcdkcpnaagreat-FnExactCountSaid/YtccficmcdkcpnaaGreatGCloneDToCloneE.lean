import Derived.Test.YtccficmcdkcpnaaGreatGAbsZPToSSDefs
set_option linter.all false
namespace RC
open Go Go.Abs
theorem J9 {α:Type}{l:List α}{enc:α->List AV}(h :∀y,(enc y).all S7=true):W4 (l.map enc):=λy hy c hc=>by
 obtain⟨z,_,rfl⟩:=uw.1 hy;exact uS.1 (h z) c hc
section
variable {P : Program} {s : St} {x y : Operand} {t el : TypeId} {size bytes id g m : Nat} {zz : List AV} {xs : List (List AV)} {n : Int} {kk : IntKind}
theorem Rl (he:Ck P t=some ⟨el,size,bytes,zz⟩)(hx:s.ev x=.own id g m)(hy:s.ev y=.int kk n)(hr:s.st[id]?=some ⟨g,el,size,xs⟩)(h0:0<=n)(h1:n<m)(hm:m=xs.length):
  AQ P s (.indexAddr t x y) (.ptr id g n.toNat 0):=λK hk=>by
 show Mi P s.st t (s.ev x) (s.ev y) K;rw[hx,hy];exact Am _ he ⟨h0,h1,Am _ hr ⟨rfl,rfl,by subst hm;simpa using hk⟩⟩
end
end RC
namespace RC
open Go Go.Abs
def mix {α:Type}(e1 e2:α->List AV)(k:Nat)(l:List α):List (List AV):=(l.take k).map e1++(l.drop k).map e2
section
variable {α : Type} {e1 e2 : α -> List AV} {k : Nat} {l : List α}
theorem H8:(mix e1 e2 k l).length=l.length:=by simp[mix];omega
theorem cn:mix e1 e2 0 l=l.map e2:=by simp[mix]
theorem cQ (h:l.length<=k):mix e1 e2 k l=l.map e1:=by
 simp[mix,wO h,wv h]
theorem Zq {c:α}(h:l[k]?=some c):(mix e1 e2 k l)[k]?=some (e2 c):=by
 obtain⟨hk,rfl⟩:=uK.1 h;unfold mix;rw[ug (by simp;omega)];simp only[uZ,vt,wV (Nat.le_of_lt hk),wX,uP,vZ,xN,uQ hk,vY]
theorem fy {c d:α}(h:l[k]?=some c):(mix e1 e2 k l).set k (e1 d)=mix e1 e2 (k+1) (l.set k d):=by
 obtain⟨hk,rfl⟩:=uK.1 h;unfold mix;rw[List.set_append_right _ _ (by simp;omega)];simp only[uZ,vt,wV (Nat.le_of_lt hk),wX];rw[xb hk,vK,List.set_cons_zero];rw[List.take_add_one,xL (uq k),List.drop_set_of_lt (by omega)];simp[hk]
theorem Xj (h1 :∀y,(e1 y).all FI=true)(h2 :∀y,(e2 y).all FI=true):DG (mix e1 e2 k l):=λx hx c hc=>by
 unfold mix at hx;rcases vJ.1 hx with h|h
 ·obtain⟨y,_,rfl⟩:=uw.1 h;exact uS.1 (h1 y) c hc
 ·obtain⟨y,_,rfl⟩:=uw.1 h;exact uS.1 (h2 y) c hc
end
theorem Rn {sel:List Nat}{g el sz:Nat}{xs:List (List AV)}(h:DG xs):CQ sel ⟨g,el,sz,xs⟩=⟨g,el,sz,xs⟩:=by
 simp only[CQ];congr 1;refine (vL (g:=id) λx hx=>?_).trans (wJ _);refine (vL (g:=id) λc hc=>?_).trans (wJ _);exact QZ (h x hx c hc)
theorem ea {sel:List Nat}{g el sz i:Nat}{xs:List (List AV)}{x:List AV}(h:DG xs)(hx:x.map (Lj sel)=x):CQ sel ⟨g,el,sz,xs.set i x⟩=⟨g,el,sz,xs.set i x⟩:=by
 have h1:=Rn (sel:=sel) (g:=g) (el:=el) (sz:=sz) h;simp only[CQ,Row.mk.injEq,true_and]at h1⊢;rw[wb,h1,hx]
theorem aV {n:Nat}{e:Nat->AV}{st st':List Row}{L:List (Nat×AV)}(sel:List Nat)(hnd:sel.Nodup)(hlt:sel.all (·<st.length)=true)(hp:Ca st sel=st')(hr :∀row∈st',CQ sel row=row)(h:ME (λt=>L0 sel (e t)) L):
  Wk 0 ⟨n,e,st⟩ ⟨n,AJ L,st'⟩:=λF os a w hrel=>by
 have hle:=T5 hrel;refine Zo sel rfl hnd hlt (by rw[hp];exact (vL hr).trans (wJ _)) (λrow zh=>?_) h F os a w hrel;rw[<- hp]at zh;obtain⟨i,_,hi⟩:=wT.1 zh;exact hle row (uL hi)
end RC
