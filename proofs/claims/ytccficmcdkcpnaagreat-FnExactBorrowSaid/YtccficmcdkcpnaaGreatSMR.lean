import Derived.Test.YtccficmcdkcpnaaGreatAbsRB
import Derived.Test.YtccficmcdkcpnaaGreatGPlainAToXNJ
set_option linter.all false
namespace Go.Abs
open Go RC Go.ChangeShapes Go.WideShapes Go.ChangeAt Go.RowKit
section
variable {H : Type} {encH : TypeId × Value -> H} {P : Program} {w : World}
def NH (encH:TypeId×Value->H)(P:Program)(w:World)(T:TypeId)(ts:List TypeId):Prop:=
 ∀fuel cs x,DataW.trod encH P w 0 (λ_=>true) true fuel T cs=some x->cs.length=ts.length/\∃n,fuel=n+1/\∀(i:Nat) t c,ts[i]?=some t->cs[i]?=some c->∃y,DataW.trod encH P w 0 (λ_=>true) true n t [c]=some y
theorem NH.mk {T:TypeId}{fs:Array Field}(hu:P.underlying T=some (.struct fs))(hc:P.cellsOf T=fs.size)(hf :∀(i:Nat) f,fs[i]?=some f->f.offset=i/\P.cellsOf f.type=1):NH encH P w T (fs.toList.map Field.type):=λfuel cs x h=>by
 obtain⟨hl,n,hn,hy⟩:=YL hu h;refine⟨by simp[hl,hc],n,hn,λi t c ht hci=>?_⟩;simp only[mX,mZ]at ht;obtain⟨f,wi,rfl⟩:=ht;have hfi':fs[i]?=some f:=by simpa using wi
 obtain⟨ho,h1⟩:=hf i f hfi';have:=hy i f hfi';rw[ho,h1]at this;obtain⟨hi,hg⟩:=mT.1 hci;rw[pZ hi,hg]at this;simpa using this
theorem Rd.blocks {tB tS tSS tBB tI tII:TypeId}(oB:NH encH P w tB [tSS,tI])(oS:NH encH P w tS [tI,tI,tI,tII,tBB])
  (uSS:P.underlying tSS=some (.slice tS)) (uBB:P.underlying tBB=some (.slice tB)) (cS:0<P.cellsOf tS) (cB:0<P.cellsOf tB) (hI:Rd encH P w tI eI Ji) (hII:Rd encH P w tII (eS eI) (Ep Ji)) :
  ∀N,WO encH P w N tB Bg JA/\WO encH P w N tS Bk H7:=by
 intro N
 induction N with
 | zero=>exact⟨λfuel cs x h=>absurd h (qd _),λfuel cs x h=>absurd h (qd _)⟩
 | succ N ih=>
  refine⟨λfuel cs x hN h=>?_,λfuel cs x hN h=>?_⟩
  ·obtain⟨hl,n,rfl,hf⟩:=oB fuel cs x h
   match cs,hl with
   | [c0,c1],_=>
    obtain⟨y0,h0⟩:=hf 0 _ _ rfl rfl;obtain⟨y1,h1⟩:=hf 1 _ _ rfl rfl;obtain⟨a0,r0,l0,g0⟩:=WO.slice uSS cS ih.2 _ _ _ (by omega) h0;obtain⟨a1,r1,l1,g1⟩:=hI _ _ _ h1;refine⟨⟨a0,a1⟩,FF r0 r1,?_,⟨g0,g1⟩⟩;intro c hc;rw[show Bg ⟨a0,a1⟩=eS Bk a0++eI a1 from rfl,nM]at hc;rcases hc with hc|hc
    ·exact l0 c hc
    ·exact l1 c hc
  ·obtain⟨hl,n,rfl,hf⟩:=oS fuel cs x h
   match cs,hl with
   | [c0,c1,c2,c3,c4],_=>
    obtain⟨y0,h0⟩:=hf 0 _ _ rfl rfl;obtain⟨y1,h1⟩:=hf 1 _ _ rfl rfl;obtain⟨y2,h2⟩:=hf 2 _ _ rfl rfl;obtain⟨y3,h3⟩:=hf 3 _ _ rfl rfl;obtain⟨y4,h4⟩:=hf 4 _ _ rfl rfl;obtain⟨a0,r0,l0,g0⟩:=hI _ _ _ h0;obtain⟨a1,r1,l1,g1⟩:=hI _ _ _ h1;obtain⟨a2,r2,l2,g2⟩:=hI _ _ _ h2;obtain⟨a3,r3,l3,g3⟩:=hII _ _ _ h3;obtain⟨a4,r4,l4,g4⟩:=WO.slice uBB cB ih.1 _ _ _ (by omega) h4;have e:Bk (.mk a0 a1 a2 a3 a4)=eI a0++(eI a1++(eI a2++(eS eI a3++eS Bg a4))):=by rw[Be];rfl
    refine⟨.mk a0 a1 a2 a3 a4,?_,?_,.mk g0 g1 g2 g3 g4.2 (λb hb=>(g4.1 b hb).steps.2) (λb hb=>(g4.1 b hb).result) λb hb=>(g4.1 b hb).steps.1⟩
    ·rw[e];exact FF r0 (FF r1 (FF r2 (FF r3 r4)))
    ·intro c hc;rw[e]at hc;simp only[nM]at hc;rcases hc with hc|hc|hc|hc|hc
     ·exact l0 c hc
     ·exact l1 c hc
     ·exact l2 c hc
     ·exact l3 c hc
     ·exact l4 c hc
theorem Rd.block {tB tS tSS tBB tI tII:TypeId}(oB:NH encH P w tB [tSS,tI])(oS:NH encH P w tS [tI,tI,tI,tII,tBB])
  (uSS:P.underlying tSS=some (.slice tS)) (uBB:P.underlying tBB=some (.slice tB)) (cS:0<P.cellsOf tS) (cB:0<P.cellsOf tB) (hI:Rd encH P w tI eI Ji) (hII:Rd encH P w tII (eS eI) (Ep Ji)) :
  Rd encH P w tB Bg JA:=WO.rd λN=>(Rd.blocks oB oS uSS uBB cS cB hI hII N).1
end
end Go.Abs
