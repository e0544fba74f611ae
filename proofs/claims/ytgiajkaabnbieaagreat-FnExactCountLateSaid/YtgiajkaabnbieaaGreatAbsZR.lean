import Derived.Test.YtgiajkaabnbieaaGreatGAbsXToAbsZN
set_option linter.all false
namespace Go.Abs
open Go
def preB:Nat->Nat->List Nat->Bool
 | 0,_,_=>true
 | _+1,_,[]=>false
 | k+1,i,a::l=>Nat.beq a i&&preB k (i+1) l
def hasB (a:Nat):List Nat->Bool
 | []=>false
 | b::l=>Nat.beq b a || hasB a l
def Yx:List Nat->Bool
 | []=>true
 | a::l=>!hasB a l&&Yx l
def cU (k n:Nat)(sel:List Nat):Bool:=preB k 0 sel&&Yx sel&&sel.all (·<n)
theorem WE:∀(k i:Nat) (l:List Nat),preB k i l=true->l.take k=List.range' i k
 | 0,_,_,_=>by simp
 | k+1,i,[],h=>by simp[preB]at h
 | k+1,i,a::l,h=>by
  simp only[preB,mQ]at h;rw[List.take_succ_cons,List.range'_succ,WE k (i+1) l h.2,np h.1]
theorem Xr {a:Nat}:∀{l:List Nat},hasB a l=false->a ∉ l
 | [],_=>by simp
 | b::l,h=>by
  simp only[hasB,Bool.or_eq_false_iff]at h;intro hm;rcases mc.1 hm with rfl|hm
  ·rw[Nat.beq_refl]at h;cases h.1
  ·exact Xr h.2 hm
theorem SY:∀{l:List Nat},Yx l=true->l.Nodup
 | [],_=>List.nodup_nil
 | a::l,h=>by
  simp only[Yx,mQ,oo]at h;exact List.nodup_cons.2 ⟨Xr h.1,SY h.2⟩
theorem OW {k n:Nat}{sel:List Nat}(h:cU k n sel=true):sel.take k=List.range k/\sel.Nodup/\sel.all (·<n)=true:=by
 unfold cU at h;simp only[mQ]at h;exact⟨by rw[WE k 0 sel h.1.1,List.range_eq_range'],SY h.1.2,h.2⟩
theorem CP {k n:Nat}{e:Nat->AV}{st st1 st':List Row}{L:List (Nat×AV)}(sel:List Nat)(hc:cU k st.length sel=true)(hp:Cr st sel=st1)(hs:SR sel st1 st')(h:ME (λt=>Ke sel (e t)) L):
  Wk k ⟨n,e,st⟩ ⟨n,AN L,st'⟩:=QE sel (OW hc).1 (OW hc).2.1 (OW hc).2.2 hp hs h
theorem Ab {k n:Nat}{e:Nat->AV}{st st':List Row}{L:List (Nat×AV)}(sel:List Nat)(hc:cU k st.length sel=true)(hp:Cr st sel=st')(hs:SR sel st' st')(h:ME (λt=>Ke sel (e t)) L):
  Wk k ⟨n,e,st⟩ ⟨n,AN L,st'⟩:=Wk.pk sel (OW hc).1 (OW hc).2.1 (OW hc).2.2 hp hs h
end Go.Abs
