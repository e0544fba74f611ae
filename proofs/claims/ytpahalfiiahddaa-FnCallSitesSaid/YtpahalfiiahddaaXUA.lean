import Derived.Test.YtpahalfiiahddaaGYGFToUGDefs

namespace RC
open Go
mutual
def vs:Step→List Int | .mk o _ _ a k=>if ZC o then [] else a ++ ZH k
def ZH:List (IH Step)→List Int | []=>[] | b :: k=>ZO b ++ ZH k
def ZO:IH Step→List Int | ⟨ss,r⟩=>Yz ss ++ [r]
def Yz:List Step→List Int | []=>[] | s :: l=>vs s ++ Yz l
end
end RC

