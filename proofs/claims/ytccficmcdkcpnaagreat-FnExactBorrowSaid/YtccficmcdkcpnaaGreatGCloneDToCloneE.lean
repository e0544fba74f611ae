import Derived.Test.YtccficmcdkcpnaaGreatGAbsZPToSSDefs
set_option linter.all false
namespace RC
open Go Go.Abs
theorem HW {α:Type}{l:List α}{enc:α->List AV}(h :∀y,(enc y).all PJ=true):S6 (l.map enc):=λy hy c hc=>by
 obtain⟨z,_,rfl⟩:=mu.1 hy;exact ma.1 (h z) c hc
section
variable {P : Program} {s : St} {x y : Operand} {t el : TypeId} {size bytes id g m : Nat} {zz : List AV} {xs : List (List AV)} {n : Int} {kk : IntKind}
theorem OO (he:CH P t=some ⟨el,size,bytes,zz⟩)(hx:s.ev x=.own id g m)(hy:s.ev y=.int kk n)(hr:s.st[id]?=some ⟨g,el,size,xs⟩)(h0:0<=n)(h1:n<m)(hm:m=xs.length):
  AQ P s (.indexAddr t x y) (.ptr id g n.toNat 0):=λK hk=>by
 show IX P s.st t (s.ev x) (s.ev y) K;rw[hx,hy];exact Ai _ he ⟨h0,h1,Ai _ hr ⟨rfl,rfl,by subst hm;simpa using hk⟩⟩
end
end RC
namespace RC
open Go Go.Abs
def mix {α:Type}(e1 e2:α->List AV)(k:Nat)(l:List α):List (List AV):=(l.take k).map e1++(l.drop k).map e2
section
variable {α : Type} {e1 e2 : α -> List AV} {k : Nat} {l : List α}
theorem GA:(mix e1 e2 k l).length=l.length:=by simp[mix];omega
theorem Wn:mix e1 e2 0 l=l.map e2:=by simp[mix]
theorem W4 (h:l.length<=k):mix e1 e2 k l=l.map e1:=by
 simp[mix,oN h,pB h]
theorem VP {c:α}(h:l[k]?=some c):(mix e1 e2 k l)[k]?=some (e2 c):=by
 obtain⟨hk,rfl⟩:=mT.1 h;unfold mix;rw[mn (by simp;omega)];simp only[mf,nw,ou (Nat.le_of_lt hk),oo,mX,ng,po,mY hk,nS]
theorem Z7 {c d:α}(h:l[k]?=some c):(mix e1 e2 k l).set k (e1 d)=mix e1 e2 (k+1) (l.set k d):=by
 obtain⟨hk,rfl⟩:=mT.1 h;unfold mix;rw[List.set_append_right _ _ (by simp;omega)];simp only[mf,nw,ou (Nat.le_of_lt hk),oo];rw[pZ hk,mz,List.set_cons_zero];rw[List.take_add_one,pN (ml k),List.drop_set_of_lt (by omega)];simp[hk]
theorem TR (h1 :∀y,(e1 y).all Dd=true)(h2 :∀y,(e2 y).all Dd=true):B8 (mix e1 e2 k l):=λx hx c hc=>by
 unfold mix at hx;rcases nM.1 hx with h|h
 ·obtain⟨y,_,rfl⟩:=mu.1 h;exact ma.1 (h1 y) c hc
 ·obtain⟨y,_,rfl⟩:=mu.1 h;exact ma.1 (h2 y) c hc
end
theorem OR {sel:List Nat}{g el sz:Nat}{xs:List (List AV)}(h:B8 xs):Bh sel ⟨g,el,sz,xs⟩=⟨g,el,sz,xs⟩:=by
 simp only[Bh];congr 1;refine (nD (g:=id) λx hx=>?_).trans (nt _);refine (nD (g:=id) λc hc=>?_).trans (nt _);exact NC (h x hx c hc)
theorem ZA {sel:List Nat}{g el sz i:Nat}{xs:List (List AV)}{x:List AV}(h:B8 xs)(hx:x.map (Ht sel)=x):Bh sel ⟨g,el,sz,xs.set i x⟩=⟨g,el,sz,xs.set i x⟩:=by
 have h1:=OR (sel:=sel) (g:=g) (el:=el) (sz:=sz) h;simp only[Bh,Row.mk.injEq,true_and]at h1⊢;rw[oR,h1,hx]
theorem VE {n:Nat}{e:Nat->AV}{st st':List Row}{L:List (Nat×AV)}(sel:List Nat)(tX:sel.Nodup)(rh:sel.all (·<st.length)=true)(hp:B9 st sel=st')(hr :∀row∈st',Bh sel row=row)(h:ME (λt=>Jg sel (e t)) L):
  Wk 0 ⟨n,e,st⟩ ⟨n,AM L,st'⟩:=λF os a w ry=>by
 have hle:=P2 ry;refine RH sel rfl tX rh (by rw[hp];exact (nD hr).trans (nt _)) (λrow rK=>?_) h F os a w ry;rw[<- hp]at rK;obtain⟨i,_,hi⟩:=oM.1 rK;exact hle row (mS hi)
end RC
