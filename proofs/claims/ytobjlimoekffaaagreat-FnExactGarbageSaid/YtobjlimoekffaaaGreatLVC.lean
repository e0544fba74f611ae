import Derived.Test.YtobjlimoekffaaaGreatLVB
import Derived.Test.YtobjlimoekffaaaGreatGEncCToGCDefs

namespace RC
open Go
theorem We {l:List Int} {x:Int} (hl:l.length≤1048576) {N i:Nat} (hi:i≤l.length) (hN:l.length - i < N) :
  (x∈l.drop i→∃j:Nat,BX l x N (i:Int)=some (.inl (j:Int)))∧(x ∉ l.drop i→BX l x N (i:Int)=some (.inr ())):=by
 refine BM l.length (fun N i=>(x∈l.drop i→∃j:Nat,BX l x N (i:Int)=some (.inl (j:Int)))∧(x ∉ l.drop i→BX l x N (i:Int)=some (.inr ()))) ?_ ?_ hi hN
 ·intro n
  rw[List.drop_length]
  exact⟨fun h=>(by cases h),fun _=>by rw[BX,if_neg (by simp[AK])]⟩
 ·intro n i hi ih
  obtain⟨y,hy,_⟩:=BR hi
  rw[drop_cons hy,BX,if_pos (by simp[AK];omega),Ak hy]
  simp only[Option.bind_some,List.mem_cons,not_or]
  rw[As (n:=(i:Int) + 1) (by omega) (by omega),show ((i:Int) + 1)=((i+1:Nat):Int) by omega]
  by_cases e:x=y
  ·rw[if_pos (by simpa using e)]
   exact⟨fun _=>⟨i,rfl⟩,fun h=>absurd e h.1⟩
  ·rw[if_neg (by simpa using e)]
   exact⟨fun h=>ih.1 (h.resolve_left e),fun h=>ih.2 h.2⟩
theorem Sr {l:List Int} {x:Int} (hl:l.length≤1048576) {N:Nat} (hN:2000000≤N):D4 N l x=some (decide (x∈l)):=by
 have h:=We (x:=x) hl (Nat.zero_le _) (by omega:l.length - 0 < N)
 rw[List.drop_zero,show ((0:Nat):Int)=0 from rfl] at h
 unfold D4 FV
 by_cases hx:x∈l
 ·obtain⟨j,hj⟩:=h.1 hx
  rw[hj]
  have:(0:Int)≤(j:Int):=by omega
  simp[Sh.cont,hx]
 ·rw[h.2 hx]
  simp[Sh.cont,hx]
def Lu (h:List Cell) (q:List Int) (i:Nat):Bool:=decide (0 < ct h i) && !decide ((i:Int)∈q)
theorem XM {h:List Cell} {i:Nat} (hi:i < h.length) :∃c,h[i]?=some c∧c.count=ct h i:=by
 obtain⟨c,hc,_⟩:=BR hi
 refine⟨c,hc,?_⟩
 unfold ct cat;rw[hc];rfl
theorem Xh {s:Av} (hl:s.heap.length≤1048576) {q:List Int} (hq:q.length≤1048576) {N0:Nat} (hN0:2000000≤N0) {N i:Nat} (hi:i≤s.heap.length) (hN:s.heap.length - i < N) :∀acc:List Nat,acc.length≤i→
  Da N0 s q N i (BK acc)=some (BK (acc ++ mk (Lu s.heap q) s.heap.length i)):=by
 refine BM s.heap.length (fun N i=>∀acc:List Nat,acc.length≤i→Da N0 s q N i (BK acc)=some (BK (acc ++ mk (Lu s.heap q) s.heap.length i))) ?_ ?_ hi hN
 ·intro n acc _
  rw[Da,if_neg (by simp[AK]),Q3,List.append_nil]
 ·intro n i hi ih acc ha
  obtain⟨c,hc,hcc⟩:=XM hi
  rw[Da,if_pos (by simp[AK];omega),Ak hc]
  simp only[Option.bind_some]
  rw[Wm hq hN0,As (by omega) (by omega),show ((i:Int) + 1)=((i+1:Nat):Int) by omega,JV hi]
  have e:(if decide (0 < c.count)=true then Option.bind (some (decide ((i:Int)∈q))) fun q33=>some (!q33) else some false)=some (Lu s.heap q i):=by
   unfold Lu
   rw[← hcc]
   cases decide (0 < c.count) <;> simp
  rw[e]
  simp only[Option.bind_some]
  cases hg:Lu s.heap q i with
  | false=>simp only[Bool.false_eq_true,if_false,Option.bind_some,List.nil_append];exact ih acc (by omega)
  | true=>
   simp only[if_true]
   rw[Eh _ _ 8 (by rw[FZ];simp;omega) (by rw[FZ];simp;omega)]
   simp only[Option.bind_some]
   have:=ih (acc ++ [i]) (by simp;omega)
   rw[Jn,List.append_assoc] at this
   exact this
theorem Xl {s:Av} (hl:s.heap.length≤1048576) {q:List Int} (hq:q.length≤1048576) {N0:Nat} (hN0:2000000≤N0) {N i:Nat} (hi:i≤s.heap.length) (hN:s.heap.length - i < N) :∀acc:List Nat,acc.length≤i→
  Dc N0 s q N i (BK acc)=some (BK (acc ++ mk (Lu s.heap q) s.heap.length i)):=by
 refine BM s.heap.length (fun N i=>∀acc:List Nat,acc.length≤i→Dc N0 s q N i (BK acc)=some (BK (acc ++ mk (Lu s.heap q) s.heap.length i))) ?_ ?_ hi hN
 ·intro n acc _
  rw[Dc,if_neg (by simp[AK]),Q3,List.append_nil]
 ·intro n i hi ih acc ha
  obtain⟨c,hc,hcc⟩:=XM hi
  rw[Dc,if_pos (by simp[AK];omega),Ak hc]
  simp only[Option.bind_some]
  rw[Sr hq hN0,As (by omega) (by omega),show ((i:Int) + 1)=((i+1:Nat):Int) by omega,JV hi]
  have e:(if decide (0 < c.count)=true then Option.bind (some (decide ((i:Int)∈q))) fun q33=>some (!q33) else some false)=some (Lu s.heap q i):=by
   unfold Lu
   rw[← hcc]
   cases decide (0 < c.count) <;> simp
  rw[e]
  simp only[Option.bind_some]
  cases hg:Lu s.heap q i with
  | false=>simp only[Bool.false_eq_true,if_false,Option.bind_some,List.nil_append];exact ih acc (by omega)
  | true=>
   simp only[if_true]
   rw[Eh _ _ 8 (by rw[FZ];simp;omega) (by rw[FZ];simp;omega)]
   simp only[Option.bind_some]
   have:=ih (acc ++ [i]) (by simp;omega)
   rw[Jn,List.append_assoc] at this
   exact this
theorem Sn {im:Au} (S:Eo im) {s:Av} (Q:IU s) {N:Nat} (hN:2000000≤N) :∃out:List Int,Hm N im s=some out∧Gv N im s=some out∧out.length≤1048576:=by
 have hl:=Q.hp.len
 obtain⟨b,h1,h2⟩:=Qi S Q hN
 unfold Hm Gv
 rw[h1,h2]
 simp only[Option.bind_some]
 cases b with
 | false=>exact⟨[],by simp,by simp,by simp⟩
 | true=>
  obtain⟨W,m,a1,a2,a3⟩:=Ty S Q hN h1
  have hml:=Q4 m s.heap.length 0
  have hq:(BK (mk m s.heap.length 0)).length≤1048576:=by rw[FZ];omega
  have e1:=Xh hl hq hN (Nat.zero_le _) (by omega:s.heap.length - 0 < N) [] (by simp)
  have e2:=Xl hl hq hN (Nat.zero_le _) (by omega:s.heap.length - 0 < N) [] (by simp)
  rw[show ((0:Nat):Int)=0 from rfl,show BK []=[] from rfl,List.nil_append] at e1 e2
  have hml2:=Q4 (Lu s.heap (BK (mk m s.heap.length 0))) s.heap.length 0
  refine⟨_,?_,?_,(by rw[FZ];omega:(BK (mk (Lu s.heap (BK (mk m s.heap.length 0))) s.heap.length 0)).length≤1048576)⟩
  ·simp only[Bool.not_true,Bool.false_eq_true,if_false]
   rw[a1]
   simp only[Option.bind_some]
   rw[a2]
   simp only[Option.bind_some]
   rw[e1];rfl
  ·simp only[Bool.not_true,Bool.false_eq_true,if_false]
   rw[a3]
   simp only[Option.bind_some]
   rw[e2];rfl
theorem Lz {x:Au} {s:Av} (H:Pr x) (G:JA s):Fp 2000000 x s=some true:=by
 have hN:(2000000:Nat)≤2000000:=Nat.le_refl _
 unfold Fp
 rw[VU H (by omega) (by omega) hN]
 simp only[Option.bind_some]
 by_cases h:(1048576:Int) - (Lx x:Int) < 0
 ·rw[Bk h];rfl
 ·rw[Cv h,if_neg (by simpa using h),U6 G (by omega) (by omega) hN]
  simp only[Option.bind_some]
  by_cases h2:(1048576:Int) - (Lx x:Int) - (KC s:Int) < 0
  ·rw[Bk h2];rfl
  ·rw[Cv h2,if_neg (by simpa using h2)]
   have hz:Lx x≤1048576:=by omega
   have hy:KC s≤1048576:=by omega
   have S:=Xb hz
   have Q:IU s:=⟨Yg G hy,G,hy⟩
   obtain⟨out,h3,h4,h5⟩:=Sn S Q hN
   obtain⟨k,r,hk0,hm⟩:=Sb hz hN
   obtain⟨k2,r2,hm2⟩:=Sk Q hk0 hN (a:=s.status) (b:=s.value) (c:=s.calls) (d:=s.CV)
   have hk:decide ((k2:Int) < 0)=false:=decide_eq_false (by omega)
   have e1:=Eb (l:=out) (by omega) (k:=1) (by omega) hN
   have e2:=T2 (m:=out.length) (by omega) (k:=1) (by omega) hN
   rw[show ((1:Nat):Int)=1 from rfl] at e1 e2
   have hk2:decide (((1+out.length:Nat):Int) < 0)=false:=decide_eq_false (by omega)
   rw[Vb hz hN,VL G hy hN]
   simp only[Option.bind_some]
   rw[h3,h4]
   simp only[Option.bind_some]
   rw[FR (by omega) hN,Vc hz hN,Vl G hy hN]
   simp only[Option.bind_some]
   rw[hm]
   simp only[Option.bind_some]
   rw[hm2]
   simp only[Option.bind_some,Bool.not_true,Bool.false_eq_true,if_false]
   rw[hk]
   simp only[Bool.false_eq_true,if_false,Option.bind_some]
   rw[e1]
   simp only[Option.bind_some]
   rw[e2]
   simp only[Option.bind_some]
   rw[hk2]
   simp
end RC

