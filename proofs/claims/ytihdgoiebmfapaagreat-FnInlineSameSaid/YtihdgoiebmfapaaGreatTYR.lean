import Derived.Test.YtihdgoiebmfapaaGreatGTYNToTYQ
set_option linter.all false
namespace RC
open Go
theorem Rk {code:List Int}(h8:I2 U8 code):Iz 2000000 code=some true:=by
 have hN:(2000000:Nat)<=2000000:=pL _;unfold Iz;rw[AI];by_cases hl:1048576<(code.length:Int)
 .rw[pI (by simpa using hl)]
 rw[pJ (by simpa using hl)];obtain⟨⟨p,f⟩,hd,S⟩:=Wf h8 (by omega);have S:Ds p:=S;rw[hd];simp only[ou];rcases Y8 S hN f with ⟨e1,e2⟩|⟨g,e1,e2,c,v0,v1,v2,m,f0,f1,hc,e3,e4⟩
 .rw[e1,e2];simp[av eH hN]
 .rw[e1,e2];obtain⟨n,_,n2,_,n4⟩:=WO S (f:=f) hN;have n5:=n4 v0 ⟨f0,f1⟩;simp only[ou];rw[av c hN,e3];simp only[ou,qC,pD,pV,bne_self_eq_false,pq];rw[av c hN];simp only[ou,pq];rw[n2];simp only[ou];by_cases h0:0<n
  .simp[h0]
  .rw[e4 (by omega)];simp[h0,av S hN]
end RC
