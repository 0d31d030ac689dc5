import Derived.Test.YtncgcdicadibbaaG2
import Derived.Below
import Derived.KernelRfl
section
open Go Go.Vc
namespace Go.Vc.S2
/-- gosem.cut.init -/
def a2 : Ann := .leaf
/-- weir/weirlaw2.SumAdds -/
def a3 : Ann := (.seq .leaf (.seq (.seq .leaf (.cond (.seq .leaf .leaf) .leaf)) (.seq .leaf (.seq .leaf (.seq .leaf (.seq .leaf (.seq .leaf (.seq .leaf .leaf))))))))
/-- weir/weirlaw2.SumOwn -/
def a4 : Ann := (.seq .leaf (.seq .leaf (.cut [(.t 0, (.slice 5))] [] (.seq .leaf (.cond .leaf .leaf)) (.seq .leaf (.seq .leaf (.seq .leaf (.cut [] [] (.seq .leaf (.cond (.seq .leaf .leaf) .leaf)) (.seq .leaf (.cut [] [] (.seq .leaf (.cond (.seq .leaf .leaf) .leaf)) (.cut [(.t 2, (.int .i64))] [] (.seq .leaf (.cond .leaf .leaf)) (.seq .leaf (.seq (.draw (.early 0 (.early 1 (.early 2 (.early 3 (.early 4 (.early 5 (.early 6 (.early 7 (.early 8 (.early 9 (.early 10 (.early 11 (.early 12 (.fork [(13, .done)]))))))))))))))) (.seq .leaf .leaf)))))))))))))
/-- weir/weirlaw2.SumParts -/
def a5 : Ann := (.seq .leaf (.seq .leaf (.cut [] [] (.seq .leaf (.cond (.seq .leaf .leaf) .leaf)) (.seq .leaf (.seq .leaf (.seq .leaf (.cut [(.t 9, (.int .i64))] [] (.seq .leaf (.cond .leaf .leaf)) (.seq .leaf (.cut [] [] (.seq (.draw (.early 0 (.early 1 (.early 2 (.early 3 (.early 4 (.early 5 (.early 8 (.fork [(6, (.fork [(7, (.early 9 (.early 10 (.early 11 (.early 12 (.early 13 (.early 14 (.early 15 (.early 16 (.early 19 (.fork [(17, (.fork [(18, (.early 20 (.early 21 (.early 22 (.early 23 (.early 24 (.early 25 (.early 26 (.early 27 (.early 28 (.early 31 (.fork [(29, (.fork [(30, (.early 32 (.early 33 .done)))]))]))))))))))))]))])))))))))))]))]))))))))) (.cond (.seq .leaf .leaf) .leaf)) (.seq (.seq .leaf (.block (.loop [(.t 10, (.int .i64))] [] (.seq (.seq .leaf (.cond .leaf .leaf)) (.seq (.block (.seq .leaf (.seq .leaf .leaf))) .leaf))))) (.seq .leaf .leaf)))))))))))
/-- weir/weirlaw2.SumZeros -/
def a6 : Ann := (.seq .leaf (.seq .leaf (.cut [] [] (.seq .leaf (.cond (.seq .leaf .leaf) .leaf)) (.seq .leaf (.seq .leaf (.seq .leaf (.seq .leaf (.seq (.seq .leaf (.cond (.seq .leaf .leaf) .leaf)) (.seq .leaf (.seq .leaf .leaf))))))))))
/-- weir/weirlaw2.SumPseudo -/
def a7 : Ann := (.seq .leaf (.seq .leaf (.seq .leaf (.cut [] [0, 1, 2] (.seq .leaf (.cond (.seq .leaf .leaf) .leaf)) (.seq .leaf (.seq .leaf (.cut [] [0, 1, 2] (.seq .leaf (.cond (.seq .leaf .leaf) .leaf)) (.seq (.seq .leaf (.block (.loop [(.t 15, (.int .i64))] [0, 1, 2] (.seq (.seq .leaf (.cond .leaf .leaf)) (.seq (.block .leaf) .leaf))))) (.seq (.seq .leaf (.block (.loop [(.t 16, (.int .i64))] [0, 1, 2] (.seq (.seq .leaf (.cond .leaf .leaf)) (.seq (.block .leaf) .leaf))))) (.seq .leaf (.seq .leaf (.seq .leaf (.cut [] [0, 1, 2] (.seq .leaf (.cond (.seq .leaf .leaf) .leaf)) (.seq (.seq .leaf (.block (.loop [(.t 20, (.int .i64))] [0, 1, 2] (.seq (.seq .leaf (.cond .leaf .leaf)) (.seq (.block (.seq .leaf (.cond (.seq .leaf .leaf) .leaf))) .leaf))))) (.seq (.seq .leaf (.block (.loop [(.t 21, (.int .i64))] [0, 1, 2] (.seq (.seq .leaf (.cond .leaf .leaf)) (.seq (.block (.seq .leaf (.cond (.seq .leaf .leaf) .leaf))) .leaf))))) (.seq .leaf .leaf))))))))))))))))
/-- weir/weirlaw2.SumFixes -/
def a8 : Ann := (.seq .leaf (.seq .leaf (.cut [] [] (.seq .leaf (.cond (.seq .leaf .leaf) .leaf)) (.seq .leaf (.seq .leaf (.cut [] [] (.seq .leaf (.cond (.seq .leaf .leaf) .leaf)) (.seq .leaf (.seq (.seq .leaf (.cond (.seq .leaf .leaf) .leaf)) (.seq (.draw (.early 0 (.early 1 (.early 3 (.early 4 (.fork [(2, (.fork [(5, (.early 6 (.fork [(7, (.fork [(8, .done)]))]))), (7, (.fork [(5, (.early 6 (.fork [(8, .done)])))]))])), (7, (.fork [(2, (.fork [(5, (.early 6 (.fork [(8, .done)])))]))]))])))))) (.seq (.draw (.early 0 (.early 1 (.early 2 (.early 3 (.early 4 (.early 5 (.early 6 (.fork [(7, (.early 8 (.early 9 (.early 10 (.early 11 (.early 12 .done))))))]))))))))) (.seq .leaf (.seq .leaf .leaf))))))))))))
/-- weir/weirlaw2.SumTurns -/
def a9 : Ann := (.seq .leaf (.seq .leaf (.cut [] [] (.seq .leaf (.cond (.seq .leaf .leaf) .leaf)) (.seq .leaf (.seq .leaf (.cut [(.t 7, (.int .i64))] [] (.seq .leaf (.cond .leaf .leaf)) (.seq .leaf (.seq .leaf (.seq .leaf (.seq .leaf (.cut [(.t 11, (.int .i64)), (.t 12, (.int .i64))] [] (.seq .leaf (.block (.loop [(.t 11, (.int .i64)), (.t 12, (.int .i64)), (.t 13, (.int .i64))] [] (.cut [] [] (.seq .leaf (.cond .leaf .leaf)) (.seq (.block (.draw (.early 0 (.early 1 (.early 2 (.early 3 (.early 4 (.early 5 (.early 6 (.early 7 (.early 8 (.early 9 (.early 10 (.early 11 (.early 12 (.early 13 (.early 14 (.early 15 (.early 16 (.early 17 (.early 18 (.early 19 (.early 20 (.early 21 (.early 22 (.early 23 (.early 24 (.early 25 (.early 26 (.fork [(27, (.early 28 (.early 29 (.early 30 (.early 31 (.early 32 .done))))))])))))))))))))))))))))))))))))) .leaf))))) (.cut [] [] (.seq .leaf (.cond (.seq .leaf .leaf) .leaf)) (.cut [] [] (.seq .leaf (.cond (.seq .leaf (.seq (.draw (.early 0 (.early 1 (.early 2 (.early 3 (.early 4 (.early 6 (.early 7 (.early 8 (.early 9 (.early 10 (.early 11 (.fork [(5, (.fork [(12, (.fork [(13, (.fork [(14, (.early 15 (.early 16 (.early 17 (.early 18 (.early 19 .done))))))]))]))])), (12, (.fork [(5, (.fork [(13, (.fork [(14, (.early 15 (.early 16 (.early 17 (.early 18 (.early 19 .done))))))]))]))]))]))))))))))))) (.seq .leaf (.cond (.seq .leaf .leaf) .leaf)))) .leaf)) (.seq (.seq .leaf (.block (.loop [(.t 14, (.int .i64))] [] (.seq (.seq .leaf (.cond .leaf .leaf)) (.seq (.block .leaf) .leaf))))) (.seq (.seq .leaf (.cond (.seq .leaf .leaf) .leaf)) (.seq .leaf .leaf))))))))))))))))
/-- weir/weirlaw2.SumAgain -/
def a10 : Ann := (.seq .leaf (.seq (.seq .leaf (.cond (.seq .leaf .leaf) .leaf)) (.cut [(.t 0, (.slice 24))] [] (.seq .leaf (.cond .leaf .leaf)) (.seq .leaf (.seq (.seq .leaf (.block (.loop [(.t 8, (.int .i64))] [] (.cut [] [] (.seq .leaf (.cond .leaf .leaf)) (.cut [] [] (.block (.seq .leaf (.seq (.seq .leaf (.block (.loop [(.t 9, (.slice 24)), (.t 10, (.int .i64))] [] (.seq (.seq .leaf (.cond .leaf .leaf)) (.seq (.block .leaf) .leaf))))) (.cut [] [] (.seq .leaf (.cond (.seq .leaf .leaf) .leaf)) (.cut [] [] (.seq .leaf (.cond (.seq (.draw (.early 0 (.early 1 (.early 2 (.early 3 (.early 4 (.early 5 (.early 6 (.fork [(7, (.early 8 (.early 9 (.early 10 (.early 11 (.early 12 .done))))))]))))))))) (.seq (.draw (.early 0 (.early 1 (.early 2 (.early 3 (.early 4 (.early 5 (.early 6 (.fork [(7, (.early 8 (.early 9 (.early 10 (.early 11 (.early 12 .done))))))]))))))))) (.seq (.draw (.early 0 (.early 1 (.early 2 (.early 3 (.early 4 (.early 5 (.early 6 (.fork [(7, (.early 8 (.early 9 (.early 10 (.early 11 (.early 12 .done))))))]))))))))) (.seq (.draw (.early 0 (.early 1 (.early 2 (.early 3 (.early 4 (.early 5 (.early 6 (.fork [(7, (.early 8 (.early 9 (.early 10 (.early 11 (.early 12 .done))))))]))))))))) (.seq .leaf (.cond (.seq .leaf .leaf) .leaf)))))) .leaf)) (.seq (.seq .leaf (.cond (.seq .leaf .leaf) .leaf)) (.seq .leaf (.cond .leaf .leaf)))))))) .leaf))))) (.seq .leaf .leaf))))))
/-- weir/weirlaw2.SumLong -/
def a11 : Ann := (.seq .leaf (.seq (.seq .leaf (.cond (.seq .leaf .leaf) .leaf)) (.seq .leaf (.seq .leaf (.seq .leaf (.seq (.seq .leaf (.block (.loop [(.t 8, (.int .i64))] [] (.seq (.seq .leaf (.cond .leaf .leaf)) (.seq (.block (.seq .leaf .leaf)) .leaf))))) (.seq .leaf (.cut [] [] (.seq .leaf (.cond (.seq .leaf .leaf) .leaf)) (.seq .leaf (.seq .leaf (.seq (.seq .leaf (.block (.loop [(.t 10, (.slice 24)), (.t 11, (.int .i64))] [] (.seq (.seq .leaf (.cond .leaf .leaf)) (.seq (.block .leaf) .leaf))))) (.seq .leaf (.seq .leaf .leaf)))))))))))))
/-- weir/weirlaw2.SumLent -/
def a12 : Ann := (.seq .leaf (.seq .leaf (.seq .leaf (.seq .leaf (.seq .leaf (.seq (.seq .leaf (.block (.loop [(.t 10, (.slice 24)), (.t 15, (.int .i64))] [0, 1, 2] (.seq (.seq .leaf (.cond .leaf .leaf)) (.cut [(.t 10, (.slice 24))] [0, 1, 2] (.block (.seq .leaf (.seq .leaf (.seq .leaf (.cut [] [0, 1, 2] (.seq .leaf (.cond (.seq .leaf .leaf) .leaf)) .leaf))))) .leaf))))) (.seq (.seq .leaf (.cond (.seq .leaf .leaf) .leaf)) (.seq .leaf (.seq .leaf .leaf)))))))))
/-- weir/weirlaw2.awake -/
def a13 : Ann := (.seq .leaf (.seq .leaf (.seq .leaf .leaf)))
/-- weir/weirlaw2.laid -/
def a14 : Ann := (.seq .leaf (.seq .leaf (.seq .leaf (.cut [(.t 5, (.slice 5)), (.t 6, (.slice 3))] [] (.seq .leaf (.block (.loop [(.t 5, (.slice 5)), (.t 6, (.slice 3)), (.t 7, (.int .i64))] [] (.cut [] [] (.seq .leaf (.cond .leaf .leaf)) (.seq (.block (.seq .leaf (.seq (.seq .leaf (.cond .leaf .leaf)) (.seq .leaf (.seq .leaf .leaf))))) .leaf))))) (.seq .leaf (.seq .leaf (.seq .leaf (.seq (.seq .leaf (.block (.loop [(.t 9, (.slice 24)), (.t 10, (.int .i64)), (.t 11, (.int .i64))] [] (.seq (.seq .leaf (.cond .leaf .leaf)) (.seq (.block (.seq .leaf .leaf)) .leaf))))) (.seq .leaf .leaf)))))))))
/-- weir/weirlaw2.joined -/
def a15 : Ann := (.seq .leaf (.seq .leaf (.seq (.seq .leaf (.block (.loop [(.t 3, (.slice 5)), (.t 4, (.int .i64))] [] (.seq (.seq .leaf (.cond .leaf .leaf)) (.seq (.block .leaf) .leaf))))) (.seq .leaf .leaf))))
/-- weir/sum.Sum -/
def a16 : Ann := (.seq .leaf (.seq .leaf (.seq (.seq .leaf (.block (.loop [(.t 3, (.int .i64)), (.t 4, .bool), (.t 11, (.int .i64))] [] (.seq .leaf (.seq (.cond .leaf .leaf) (.seq (.block (.seq .leaf (.seq (.seq .leaf (.block (.loop [(.t 3, (.int .i64)), (.t 4, .bool), (.t 17, (.int .i64))] [] (.seq .leaf (.seq (.cond .leaf .leaf) (.seq (.block (.seq .leaf (.cut [(.t 3, (.int .i64))] [] (.seq .leaf (.cond .leaf .leaf)) .leaf))) .leaf)))))) .leaf))) .leaf)))))) (.seq .leaf .leaf))))
/-- weir/sum.Check -/
def a17 : Ann := (.seq .leaf (.seq .leaf .leaf))
/-- weir/sum.Good -/
def a18 : Ann := (.seq .leaf (.seq .leaf .leaf))
/-- weir/weirref2.Sum -/
def a19 : Ann := (.seq .leaf (.seq .leaf (.seq .leaf (.seq (.seq .leaf (.block (.loop [(.t 3, (.int .i64)), (.t 4, (.int .i64)), (.t 5, (.int .i64))] [] (.seq (.seq .leaf (.cond .leaf .leaf)) (.seq (.block (.seq .leaf (.block (.loop [(.t 3, (.int .i64)), (.t 4, (.int .i64)), (.t 6, (.int .i64))] [] (.seq (.seq .leaf (.cond .leaf .leaf)) (.cut [(.t 3, (.int .i64)), (.t 4, (.int .i64))] [] (.block (.seq .leaf (.cut [(.t 7, (.int .i64))] [] (.seq .leaf (.cond .leaf .leaf)) (.seq .leaf .leaf)))) .leaf)))))) .leaf))))) (.seq .leaf .leaf)))))
/-- weir/weirref2.Check -/
def a20 : Ann := (.seq .leaf (.seq .leaf .leaf))
/-- weir/weirref2.Good -/
def a21 : Ann := (.seq .leaf (.seq .leaf .leaf))
/-- weir/weirlaw2.same -/
def a22 : Ann := (.seq .leaf (.seq (.seq .leaf (.cond (.seq .leaf .leaf) .leaf)) (.seq (.seq .leaf (.block (.loop [(.t 5, (.int .i64))] [] (.seq (.seq .leaf (.cond .leaf .leaf)) (.seq (.block (.seq (.draw (.early 0 (.early 1 (.early 2 (.early 3 (.early 4 (.early 5 (.early 6 (.early 7 (.early 8 .done)))))))))) (.cond (.seq .leaf .leaf) .leaf))) .leaf))))) (.seq .leaf .leaf))))
/-- weir/weirlaw2.even -/
def a23 : Ann := (.seq .leaf (.cut [(.t 0, (.slice 5))] [] (.seq .leaf (.cond .leaf .leaf)) (.seq .leaf (.seq .leaf (.seq (.seq .leaf (.cond .leaf .leaf)) (.seq .leaf .leaf))))))
/-- weir/weirlaw2.place -/
def a24 : Ann := (.seq .leaf (.cut [(.t 1, (.int .i64))] [] (.seq .leaf (.cond .leaf .leaf)) (.seq .leaf .leaf)))
/-- weir/weirlaw2.put -/
def a25 : Ann := (.seq .leaf .leaf)
/-- weir/sum.Pseudo -/
def a26 : Ann := (.seq .leaf (.seq .leaf (.cut [] [0, 1] (.block (.seq .leaf (.cond (.seq .leaf .leaf) (.seq .leaf (.cond (.seq .leaf .leaf) .leaf))))) (.seq .leaf (.seq (.seq .leaf (.cond (.seq .leaf (.seq .leaf (.seq .leaf .leaf))) .leaf)) (.seq .leaf (.seq .leaf (.seq .leaf .leaf))))))))
/-- weir/weirref2.Pseudo -/
def a27 : Ann := (.seq .leaf (.seq .leaf (.cut [] [0, 1] (.seq .leaf (.cond (.seq .leaf .leaf) .leaf)) (.cut [] [0, 1] (.seq .leaf (.cond (.seq .leaf .leaf) .leaf)) (.seq .leaf (.seq (.seq .leaf (.cond (.seq .leaf (.seq .leaf .leaf)) .leaf)) (.seq (.seq .leaf (.block (.loop [(.t 11, (.slice 5)), (.t 12, (.int .i64))] [0, 1] (.seq (.seq .leaf (.cond .leaf .leaf)) (.seq (.block .leaf) .leaf))))) (.seq (.seq .leaf (.block (.loop [(.t 11, (.slice 5)), (.t 13, (.int .i64))] [0, 1] (.seq (.seq .leaf (.cond .leaf .leaf)) (.seq (.block .leaf) .leaf))))) (.seq .leaf .leaf)))))))))
/-- weir/sum.Fix -/
def a28 : Ann := (.seq .leaf (.seq (.seq .leaf (.block (.loop [(.t 14, (.int .i64))] [] (.seq .leaf (.seq (.cond .leaf .leaf) (.seq (.block (.seq .leaf (.seq .leaf (.cond (.seq .leaf .leaf) .leaf)))) .leaf)))))) (.seq .leaf .leaf)))
/-- weir/weirref2.Fix -/
def a29 : Ann := (.seq .leaf (.cut [] [] (.seq .leaf (.cond (.seq .leaf .leaf) .leaf)) (.seq .leaf .leaf)))
/-- weir/sum.FixBytes -/
def a30 : Ann := (.seq .leaf (.cut [] [] (.block (.seq .leaf (.cond (.seq .leaf .leaf) (.seq .leaf (.cond (.seq .leaf .leaf) .leaf))))) (.seq (.seq .leaf (.block (.loop [(.t 0, (.int .i64)), (.t 8, (.int .i64))] [] (.seq (.seq .leaf (.cond .leaf .leaf)) (.seq (.block .leaf) .leaf))))) (.seq .leaf .leaf))))
/-- weir/weirref2.FixBytes -/
def a31 : Ann := (.seq .leaf (.seq (.seq .leaf (.cond (.seq .leaf .leaf) .leaf)) (.seq (.seq .leaf (.cond (.seq .leaf .leaf) .leaf)) (.seq (.seq .leaf (.block (.loop [(.t 0, (.int .i64)), (.t 8, (.int .i64))] [] (.seq (.seq .leaf (.cond .leaf .leaf)) (.seq (.block .leaf) .leaf))))) (.seq .leaf .leaf)))))
/-- weir/weirlaw2.zeros -/
def a32 : Ann := (.seq .leaf (.seq (.seq .leaf (.block (.loop [(.t 3, (.int .i64))] [] (.seq (.seq .leaf (.cond .leaf .leaf)) (.seq (.block (.seq .leaf (.cond (.seq .leaf .leaf) .leaf))) .leaf))))) (.seq .leaf .leaf)))
/-- weir/weirlaw2.list -/
def a33 : Ann := (.seq .leaf (.seq .leaf (.seq (.seq .leaf (.block (.loop [(.t 3, (.slice 24)), (.t 4, (.int .i64))] [] (.seq (.seq .leaf (.cond .leaf .leaf)) (.seq (.block .leaf) .leaf))))) (.seq (.seq .leaf (.block (.loop [(.t 3, (.slice 24)), (.t 5, (.int .i64))] [] (.seq (.seq .leaf (.cond .leaf .leaf)) (.seq (.block .leaf) .leaf))))) (.seq .leaf .leaf)))))
/-- weir/weirlaw2.Copied -/
def a34 : Ann := (.seq .leaf (.seq .leaf (.seq .leaf .leaf)))
/-- weir/weirlaw2.stands -/
def a35 : Ann := (.seq .leaf (.seq (.seq .leaf (.cond (.seq .leaf .leaf) .leaf)) (.seq (.seq .leaf (.block (.loop [(.t 5, (.int .i64))] [] (.seq (.seq .leaf (.cond .leaf .leaf)) (.seq (.block (.seq (.draw (.early 0 (.early 1 (.early 2 (.early 3 (.early 4 (.early 5 (.early 6 (.early 7 (.fork [(8, (.early 9 .done))])))))))))) (.cond (.seq .leaf .leaf) .leaf))) .leaf))))) (.seq .leaf (.seq (.seq .leaf (.block (.loop [(.t 7, (.int .i64))] [] (.seq (.seq .leaf (.cond .leaf .leaf)) (.cut [] [] (.block (.seq .leaf (.seq .leaf (.cond (.seq .leaf .leaf) .leaf)))) .leaf))))) (.seq .leaf .leaf))))))
/-- weir/weirlaw2.turned -/
def a36 : Ann := (.seq .leaf (.seq (.seq .leaf (.cond .leaf .leaf)) (.seq .leaf (.seq .leaf (.cond (.draw (.early 0 (.early 1 (.early 2 (.early 3 (.early 4 (.early 5 (.early 6 (.early 7 (.early 8 (.early 9 (.early 10 (.early 11 (.early 12 (.early 13 (.early 14 (.fork [(15, (.early 16 (.fork [(17, .done)])))]))))))))))))))))) (.seq .leaf (.cond (.draw (.early 0 (.early 1 (.early 2 (.early 3 (.early 4 (.early 5 (.early 6 (.early 7 (.early 8 (.early 9 (.early 10 (.early 12 (.early 13 (.fork [(11, (.early 14 (.fork [(15, .done)])))]))))))))))))))) .leaf)))))))
/-- weir/weirlaw2.folded -/
def a37 : Ann := (.seq .leaf (.seq (.block (.loop [(.t 0, (.int .i64))] [] (.seq (.seq .leaf (.cond .leaf .leaf)) (.block .leaf)))) (.seq .leaf .leaf)))
/-- weir/weirlaw2.Apart -/
def a38 : Ann := (.seq .leaf (.seq .leaf (.seq (.seq .leaf (.block (.loop [(.t 3, (.int .i64)), (.t 4, (.int .i64))] [] (.seq (.seq .leaf (.cond .leaf .leaf)) (.seq (.block (.seq .leaf (.seq .leaf (.block (.loop [(.t 5, (.int .i64))] [] (.seq (.seq .leaf (.cond .leaf .leaf)) (.seq (.block .leaf) .leaf))))))) .leaf))))) (.seq .leaf (.seq (.seq .leaf (.block (.loop [(.t 6, (.slice 24)), (.t 7, (.int .i64))] [] (.seq (.seq .leaf (.cond .leaf .leaf)) (.seq (.block (.seq .leaf (.seq (.seq .leaf (.block (.loop [(.t 8, (.slice 5)), (.t 9, (.int .i64))] [] (.seq (.seq .leaf (.cond .leaf .leaf)) (.seq (.block .leaf) .leaf))))) .leaf))) .leaf))))) (.seq (.seq .leaf (.block (.loop [(.t 10, (.int .i64))] [] (.seq (.seq .leaf (.cond .leaf .leaf)) (.cut [] [] (.block (.seq (.draw (.early 0 (.early 1 (.early 2 (.early 3 (.early 4 (.early 5 (.early 6 (.early 7 (.fork [(8, (.early 9 (.early 10 (.early 11 (.early 12 (.early 13 (.early 14 (.early 15 (.early 16 (.early 17 (.early 18 (.fork [(19, (.early 20 (.early 21 (.early 22 (.early 23 (.early 24 (.early 25 (.early 26 (.early 27 (.early 28 (.early 29 (.early 30 (.early 31 (.early 32 (.early 33 (.early 34 (.early 35 (.early 36 .done))))))))))))))))))]))))))))))))])))))))))) (.cond (.seq .leaf .leaf) .leaf))) .leaf))))) (.seq .leaf .leaf)))))))
/-- weir/sum.fold -/
def a39 : Ann := (.seq .leaf (.seq (.block (.loop [(.t 0, (.int .i64))] [] (.seq (.seq .leaf (.cond .leaf .leaf)) (.block .leaf)))) (.seq .leaf .leaf)))
/-- weir/weirref2.folded -/
def a40 : Ann := (.seq .leaf (.seq (.seq .leaf (.cond (.seq .leaf .leaf) .leaf)) (.seq .leaf .leaf)))
/-- weir/sum.version -/
def a41 : Ann := (.seq .leaf (.seq (.block (.seq .leaf (.cond (.seq .leaf .leaf) (.seq .leaf (.cond (.seq .leaf .leaf) .leaf))))) (.seq .leaf (.seq (.seq .leaf (.cond (.seq .leaf .leaf) .leaf)) (.seq .leaf .leaf)))))
/-- weir/weirref2.version -/
def a42 : Ann := (.seq .leaf (.seq (.seq .leaf (.cond (.seq .leaf .leaf) .leaf)) (.seq (.seq .leaf (.block (.loop [(.t 3, (.int .i64))] [0] (.seq (.seq .leaf (.cond .leaf .leaf)) (.seq (.block (.seq .leaf (.cond (.seq .leaf .leaf) .leaf))) .leaf))))) (.seq (.seq .leaf (.cond (.seq .leaf .leaf) .leaf)) (.seq .leaf .leaf)))))
/-- weir/weirref2.word -/
def a43 : Ann := (.seq .leaf (.seq .leaf .leaf))
/-- weir/sum.word -/
def a44 : Ann := (.seq .leaf (.seq .leaf (.seq (.seq .leaf (.cond .leaf .leaf)) (.seq .leaf .leaf))))
/-- weir/weirref2.at -/
def a45 : Ann := (.seq .leaf (.seq (.seq .leaf (.cond (.seq (.draw (.early 0 (.early 1 (.early 2 (.early 3 (.early 4 (.early 5 (.early 6 (.early 7 (.early 8 (.early 9 (.early 10 (.early 11 (.early 12 (.early 13 .done))))))))))))))) .leaf) .leaf)) (.seq .leaf .leaf)))
/-- weir/weirlaw2.Wide -/
def a46 : Ann := (.seq .leaf (.seq .leaf (.seq .leaf (.seq (.seq .leaf (.block (.loop [(.t 4, (.int .i64))] [] (.seq (.seq .leaf (.cond .leaf .leaf)) (.seq (.block .leaf) .leaf))))) (.seq .leaf .leaf)))))
/-- weir/weirlaw2.WideStands -/
def a47 : Ann := (.seq .leaf (.seq (.seq .leaf (.cond (.seq .leaf .leaf) .leaf)) (.seq .leaf (.seq (.seq .leaf (.block (.loop [(.t 6, (.int .i64))] [] (.seq (.seq .leaf (.cond .leaf .leaf)) (.cut [] [] (.block (.seq (.draw (.early 0 (.early 1 (.early 2 (.early 3 (.early 4 (.early 5 (.early 6 (.early 7 (.early 8 (.early 9 (.early 10 (.early 11 (.early 12 (.early 13 (.early 14 (.early 15 (.early 16 (.early 17 (.early 18 (.early 19 (.early 20 (.early 21 (.early 22 (.early 23 (.early 24 (.early 25 (.early 26 (.early 27 (.early 28 (.fork [(29, (.early 30 (.early 31 (.early 32 .done))))]))))))))))))))))))))))))))))))) (.cond (.seq .leaf .leaf) .leaf))) .leaf))))) (.seq .leaf .leaf)))))
/-- weir/weirlaw2.Place -/
def a48 : Ann := (.seq .leaf (.seq .leaf .leaf))
/-- weir/weirlaw2.full -/
def a49 : Ann := (.seq .leaf (.seq (.seq .leaf (.block (.loop [(.t 5, (.int .i64))] [] (.seq (.seq .leaf (.cond .leaf .leaf)) (.seq (.block (.seq .leaf (.cond (.seq .leaf .leaf) .leaf))) .leaf))))) (.seq .leaf .leaf)))
/-- weir/weirlaw2.behind -/
def a50 : Ann := (.seq .leaf (.seq .leaf .leaf))
end Go.Vc.S2
end

section
namespace Go.Vc
open Go.RowKit (Below)
set_option linter.unusedVariables false
set_option linter.unusedSimpArgs false
set_option autoImplicit false

/-! ### frames -/
theorem Upd.below {m n : List Nat} {w w1 : World} (h : Upd m n w w1) (hm : ∀ b ∈ m, w.heap.size ≤ b) : Below w.heap.size w w1 :=
  ⟨h.os, h.tape, h.output, h.size, fun k hk => h.keep k hk (fun e => by have := hm k e; omega)⟩
theorem Upd.ofBelow {w w1 : World} (h : Below w.heap.size w w1) : Upd [] [] w w1 := ⟨h.os, h.tape, h.output, h.size, fun k hk _ => h.block k hk, by simp⟩
/-- nothing old is written: w is what it was, but for blocks from w0's size on -/
theorem Upd.step {m n m' n' : List Nat} {w0 w w1 : World} (h : Upd m n w0 w) (k : Upd m' n' w w1) (hm : ∀ b ∈ m', w0.heap.size ≤ b ∨ b ∈ m) : Upd m [] w0 w1 where
  os := k.os.trans h.os
  tape := k.tape.trans h.tape
  output := k.output.trans h.output
  size := Nat.le_trans h.size k.size
  keep b hb hn := by
    have h1 := h.size
    rw [k.keep b (by omega) (fun e => by rcases hm b e with h | h; omega; exact hn h), h.keep b hb hn]
  news := by simp
theorem Upd.step0 {n m' n' : List Nat} {w0 w w1 : World} (h : Upd [] n w0 w) (k : Upd m' n' w w1) (hm : ∀ b ∈ m', w0.heap.size ≤ b) : Upd [] [] w0 w1 :=
  h.step k (fun b hb => .inl (hm b hb))
theorem Upd.then {n n' : List Nat} {w0 w w1 : World} (h : Upd [] n w0 w) (k : Upd [] n' w w1) : Upd [] [] w0 w1 := h.step k (by simp)
theorem Upd.forget {m n : List Nat} {w w1 : World} (h : Upd m n w w1) : Upd m [] w w1 := h.mono (fun _ h => h) (by simp)
theorem Upd.wide {m m' n : List Nat} {w w1 : World} (h : Upd m n w w1) (hm : ∀ x ∈ m, x ∈ m') : Upd m' [] w w1 := h.mono hm (by simp)
theorem Upd.new {m n : List Nat} {w w1 : World} (h : Upd m n w w1) {b : Nat} (hb : b ∈ n) : w.heap.size ≤ b ∧ b < w1.heap.size := h.news b hb

theorem cell_of_block {w : World} {b e : Nat} {c : Array Value} {f : Nat × Nat} (h : w.heap[b]? = some (.cells c e f)) (i : Nat) : w.cell? ⟨b, i, none⟩ = c[i]? := by
  simp [World.cell?, h]
theorem frozen_of_block {w : World} {b e : Nat} {c : Array Value} (h : w.heap[b]? = some (.cells c e (0, 0))) (i : Nat) : w.frozen? ⟨b, i, none⟩ = false := by
  simp [World.frozen?, h]
theorem cell_lt {w : World} {a : Addr} {v : Value} (h : w.cell? a = some v) : a.block < w.heap.size := by
  unfold World.cell? at h
  split at h
  · rename_i hb
    exact (Array.getElem?_eq_some_iff.1 hb).1
  · cases h
theorem isSome_lt {w : World} {a : Addr} (h : (w.cell? a).isSome = true) : a.block < w.heap.size := by
  obtain ⟨v, hv⟩ := Option.isSome_iff_exists.1 h
  exact cell_lt hv
@[simp] theorem add_block (a : Addr) (n : Nat) : (a.add n).block = a.block := by unfold Addr.add; split <;> rfl
@[simp] theorem add_zero (a : Addr) : a.add 0 = a := by simp [Addr.add]
theorem add_none {b o n : Nat} : (⟨b, o, none⟩ : Addr).add n = ⟨b, o + n, none⟩ := by unfold Addr.add; split <;> simp_all
theorem spot_none {w : World} {a : Addr} (h : (w.cell? a).isSome = true) : a = ⟨a.block, a.off, none⟩ := by
  obtain ⟨v, hv⟩ := Option.isSome_iff_exists.1 h
  have := World.cell?_spot hv
  cases a; simp_all

theorem Upd.cell' {m n : List Nat} {w w1 : World} (h : Upd m n w w1) {a : Addr} (hs : (w.cell? a).isSome = true) (hm : a.block ∉ m) : w1.cell? a = w.cell? a := by
  obtain ⟨v, hv⟩ := Option.isSome_iff_exists.1 hs
  rw [hv]; exact h.cell hv hm
theorem Upd.frozen {m n : List Nat} {w w1 : World} (h : Upd m n w w1) {a : Addr} (hs : a.block < w.heap.size) (hm : a.block ∉ m) : w1.frozen? a = w.frozen? a := by
  simp only [World.frozen?, h.keep _ hs hm]

/-- cells written one behind the other -/
theorem Upd.setCells (w : World) (b o : Nat) (vs : List Value) : Upd [b] [] w (w.setCells b o vs) where
  os := (World.keptBut_setCells b (may := fun _ => True) vs o w (fun _ _ => trivial)).1
  tape := by
    have : ∀ (vs : List Value) (o : Nat) (w : World), (w.setCells b o vs).tape = w.tape := by
      intro vs
      induction vs with
      | nil => intro o w; rfl
      | cons v r ih => intro o w; rw [World.setCells, ih]; rfl
    exact this vs o w
  output := (World.keptBut_setCells b (may := fun _ => True) vs o w (fun _ _ => trivial)).2.1
  size := by
    have : ∀ (vs : List Value) (o : Nat) (w : World), (w.setCells b o vs).heap.size = w.heap.size := by
      intro vs
      induction vs with
      | nil => intro o w; rfl
      | cons v r ih => intro o w; rw [World.setCells, ih]; simp [World.setCell]
    rw [this]; exact Nat.le_refl _
  keep k hk hn := by
    have : ∀ (vs : List Value) (o : Nat) (w : World), (w.setCells b o vs).heap[k]? = w.heap[k]? := by
      intro vs
      induction vs with
      | nil => intro o w; rfl
      | cons v r ih =>
        intro o w
        rw [World.setCells, ih]
        exact Below.heap_setCell _ _ _ _ (by simp at hn; exact hn)
    exact this vs o w
  news := by simp

/-! ### what a slice holds -/
/-- how elements lie in cells -/
structure Cod (α : Type) where
  sz : Nat
  enc : α → List Value
  len : ∀ x, (enc x).length = sz
  one : ∀ x, ∀ v ∈ enc x, v.oneCell' = true

def Cod.cells {α : Type} (c : Cod α) (l : List α) : List Value := l.flatMap c.enc
@[simp] theorem Cod.cells_nil {α : Type} (c : Cod α) : c.cells [] = [] := rfl
theorem Cod.cells_cons {α : Type} (c : Cod α) (x : α) (l : List α) : c.cells (x :: l) = c.enc x ++ c.cells l := by simp [Cod.cells]
theorem Cod.cells_append {α : Type} (c : Cod α) (l m : List α) : c.cells (l ++ m) = c.cells l ++ c.cells m := by simp [Cod.cells]
theorem Cod.cells_length {α : Type} (c : Cod α) : ∀ (l : List α), (c.cells l).length = l.length * c.sz
  | [] => by simp
  | x :: l => by rw [Cod.cells_cons, List.length_append, c.len, Cod.cells_length c l, List.length_cons, Nat.add_mul]; omega
theorem Cod.cells_one {α : Type} (c : Cod α) (l : List α) : ∀ v ∈ c.cells l, v.oneCell' = true := fun v hv => by
  obtain ⟨x, _, hx⟩ := List.mem_flatMap.1 hv
  exact c.one x v hx
theorem mul_add_lt {i j n sz : Nat} (hi : i < n) (hj : j < sz) : i * sz + j < n * sz := by
  have h1 : (i + 1) * sz ≤ n * sz := Nat.mul_le_mul_right _ hi
  rw [Nat.add_mul] at h1
  omega
theorem Cod.cells_get {α : Type} (c : Cod α) : ∀ (l : List α) (i : Nat) (h : i < l.length) (j : Nat) (hj : j < (c.enc l[i]).length), (c.cells l)[i * c.sz + j]? = some (c.enc l[i])[j]
  | x :: l, 0, _, j, hj => by
    simp at hj
    rw [Cod.cells_cons]
    simp [List.getElem?_append_left, hj]
  | x :: l, i + 1, h, j, hj => by
    rw [Cod.cells_cons, List.getElem?_append_right (by rw [c.len, Nat.add_mul]; omega), c.len]
    have := Cod.cells_get c l i (by simpa using h) j (by simpa using hj)
    rw [show (i + 1) * c.sz + j - c.sz = i * c.sz + j by rw [Nat.add_mul]; omega]
    simpa using this
theorem Cod.cells_take {α : Type} (c : Cod α) (l : List α) (n : Nat) : (c.cells l).take (n * c.sz) = c.cells (l.take n) := by
  induction l generalizing n with
  | nil => simp
  | cons x l ih =>
    cases n with
    | zero => simp
    | succ n =>
      rw [Cod.cells_cons, List.take_succ_cons, Cod.cells_cons, ← ih n]
      rw [List.take_append, c.len, List.take_of_length_le (by rw [c.len, Nat.add_mul]; omega)]
      rw [show (n + 1) * c.sz - c.sz = n * c.sz by rw [Nat.add_mul]; omega]
theorem Cod.cells_drop {α : Type} (c : Cod α) (l : List α) (n : Nat) : (c.cells l).drop (n * c.sz) = c.cells (l.drop n) := by
  induction l generalizing n with
  | nil => simp
  | cons x l ih =>
    cases n with
    | zero => simp
    | succ n =>
      rw [Cod.cells_cons, List.drop_succ_cons, ← ih n, List.drop_append, c.len, List.drop_of_length_le (by rw [c.len, Nat.add_mul]; omega)]
      rw [show (n + 1) * c.sz - c.sz = n * c.sz by rw [Nat.add_mul]; omega]
      simp

/-- the cells from p on -/
def Cells (w : World) (p : Option Addr) (vs : List Value) : Prop :=
  match p with
  | none => vs = []
  | some a => ∀ i (h : i < vs.length), w.cell? (a.add i) = some vs[i]

def Sl.blk (s : Sl) : List Nat := match s.ptr with | none => [] | some a => [a.block]
theorem blk_some {s : Sl} {a : Addr} (h : s.ptr = some a) : s.blk = [a.block] := by simp [Sl.blk, h]
theorem blk_none {s : Sl} (h : s.ptr = none) : s.blk = [] := by simp [Sl.blk, h]

structure Sees {α : Type} (c : Cod α) (w : World) (s : Sl) (l : List α) : Prop where
  len : s.len = l.length
  row : Cells w s.ptr (c.cells l)

theorem Cells.upd {m n : List Nat} {w w1 : World} {p : Option Addr} {vs : List Value} (h : Cells w p vs) (u : Upd m n w w1) (hm : ∀ a, p = some a → vs ≠ [] → a.block ∉ m) : Cells w1 p vs := by
  cases p with
  | none => exact h
  | some a =>
    intro i hi
    exact u.cell (h i hi) (by simpa using hm a rfl (by intro e; rw [e] at hi; cases hi))
theorem Cells.app {w : World} {a : Addr} {x y : List Value} (h : Cells w (some a) (x ++ y)) : Cells w (some a) x ∧ Cells w (some (a.add x.length)) y := by
  refine ⟨fun i hi => ?_, fun i hi => ?_⟩
  · have := h i (by simp; omega)
    rwa [List.getElem_append_left hi] at this
  · have := h (x.length + i) (by simp; omega)
    rw [List.getElem_append_right (by omega)] at this
    rw [add_add]
    simpa using this
theorem Cells.mk {w : World} {a : Addr} {x y : List Value} (h : Cells w (some a) x) (k : Cells w (some (a.add x.length)) y) : Cells w (some a) (x ++ y) := by
  intro i hi
  by_cases hx : i < x.length
  · rw [List.getElem_append_left hx]; exact h i hx
  · rw [List.getElem_append_right (by omega)]
    have := k (i - x.length) (by simp at hi; omega)
    rw [add_add, show x.length + (i - x.length) = i by omega] at this
    exact this

section
variable {α : Type} {c : Cod α} {w w1 : World} {s : Sl} {l : List α}

theorem Sees.upd {m n : List Nat} (h : Sees c w s l) (u : Upd m n w w1) (hm : ∀ b ∈ s.blk, b ∉ m) : Sees c w1 s l :=
  ⟨h.len, h.row.upd u (fun a ha _ => hm _ (by simp [blk_some ha]))⟩
theorem Sees.old {n : List Nat} (h : Sees c w s l) (u : Upd [] n w w1) : Sees c w1 s l := h.upd u (by simp)

theorem Sees.nil (c : Cod α) (w : World) (p : Option Addr) (cap : Nat) : Sees c w ⟨p, 0, cap⟩ [] := ⟨rfl, by cases p <;> simp [Cells]⟩

/-- an element's cells -/
theorem Sees.elem (h : Sees c w s l) {i : Nat} (hi : i < l.length) : Cells w (some (s.at c.sz i)) (c.enc l[i]) := by
  intro j hj
  have hrow := h.row
  have hg := c.cells_get l i hi j hj
  cases hp : s.ptr with
  | none =>
    rw [hp] at hrow
    simp only [Cells] at hrow
    rw [hrow] at hg
    simp at hg
  | some a =>
    rw [hp] at hrow
    obtain ⟨hlt, he⟩ := List.getElem?_eq_some_iff.1 hg
    have := hrow _ hlt
    rw [he] at this
    simp only [Sl.at, hp, Option.getD_some, add_add]
    exact this
theorem Sees.ptr_some (h : Sees c w s l) (hz : 0 < c.sz) (hl : 0 < l.length) : ∃ a, s.ptr = some a := by
  cases hp : s.ptr with
  | some a => exact ⟨a, rfl⟩
  | none =>
    have hrow := h.row
    rw [hp] at hrow
    simp only [Cells] at hrow
    have := c.cells_length l
    rw [hrow] at this
    have h2 : 0 < l.length * c.sz := Nat.mul_pos hl hz
    simp at this
    omega
theorem Sees.isSome (h : Sees c w s l) (hz : 0 < c.sz) (hl : 0 < l.length) : s.ptr.isSome = true := by
  obtain ⟨a, ha⟩ := h.ptr_some hz hl
  simp [ha]

/-- a slice of the slice -/
theorem Sees.sub (h : Sees c w s l) {lo hi mx : Nat} (h1 : lo ≤ hi) (h2 : hi ≤ l.length) (h3 : hi ≤ mx) : Sees c w (s.sub c.sz lo hi mx) ((l.take hi).drop lo) where
  len := by simp [Sl.sub]; omega
  row := by
    have hrow := h.row
    rw [← c.cells_drop, ← c.cells_take]
    cases hp : s.ptr with
    | none =>
      rw [hp] at hrow
      simp only [Cells] at hrow
      simp only [hrow, Sl.sub, hp]
      simp [Cells]
    | some a =>
      rw [hp] at hrow
      by_cases e : mx = lo
      · have : hi = lo := by omega
        subst this
        have e2 : ((c.cells l).take (hi * c.sz)).drop (hi * c.sz) = [] := by simp
        rw [e2]
        simp only [Sl.sub]
        split <;> simp [Cells, hp]
      · simp only [Sl.sub, if_neg e, hp, Option.map_some]
        intro i hi'
        simp at hi'
        rw [add_add]
        simp only [List.getElem_drop, List.getElem_take]
        exact hrow _ (by omega)
theorem Sees.take (h : Sees c w s l) {n : Nat} (hn : n ≤ l.length) (cap : Nat) : Sees c w ⟨s.ptr, n, cap⟩ (l.take n) where
  len := by simp; omega
  row := by
    have hrow := h.row
    rw [← c.cells_take]
    cases hp : s.ptr with
    | none => rw [hp] at hrow; simp only [Cells] at hrow; simp [hrow, Cells]
    | some a =>
      rw [hp] at hrow
      intro i hi
      simp at hi
      simp only [List.getElem_take]
      exact hrow _ (by omega)

theorem Sees.rowAt (h : Sees c w s l) : RowAt w s.ptr (s.len * c.sz) (c.cells l) := by
  have hrow := h.row
  cases hp : s.ptr with
  | none => rw [hp] at hrow; exact hrow
  | some a =>
    rw [hp] at hrow
    exact ⟨by rw [c.cells_length, h.len], hrow, c.cells_one l⟩

/-- a slice's array may be written, and it is from block N on -/
structure Own (N : Nat) (sz : Nat) (w : World) (s : Sl) : Prop where
  le : s.len ≤ s.cap
  nil : s.ptr = none → s.cap = 0
  blk : ∀ b ∈ s.blk, N ≤ b ∧ b < w.heap.size
  cell : ∀ a, s.ptr = some a → a.spot = none ∧ ∀ i, i < s.cap * sz → (w.cell? (a.add i)).isSome = true ∧ w.frozen? (a.add i) = false

theorem Own.none (N sz : Nat) (w : World) : Own N sz w ⟨none, 0, 0⟩ := ⟨Nat.le_refl _, fun _ => rfl, by simp [Sl.blk], by simp⟩
theorem Own.upd {N sz : Nat} {m n : List Nat} (h : Own N sz w s) (u : Upd m n w w1) (hm : ∀ b ∈ s.blk, b ∉ m) : Own N sz w1 s where
  le := h.le
  nil := h.nil
  blk b hb := ⟨(h.blk b hb).1, Nat.lt_of_lt_of_le (h.blk b hb).2 u.size⟩
  cell a ha := ⟨(h.cell a ha).1, fun i hi => by
    have hb := hm a.block (by simp [blk_some ha])
    have h1 := (h.cell a ha).2 i hi
    have h2 := (h.blk a.block (by simp [blk_some ha])).2
    rw [u.cell' h1.1 (by simpa using hb), u.frozen (by simpa using h2) (by simpa using hb)]
    exact h1⟩
theorem Own.old {N sz : Nat} {n : List Nat} (h : Own N sz w s) (u : Upd [] n w w1) : Own N sz w1 s := h.upd u (by simp)
theorem Own.mono {N N' sz : Nat} (h : Own N sz w s) (hN : N' ≤ N) : Own N' sz w s := ⟨h.le, h.nil, fun b hb => ⟨Nat.le_trans hN (h.blk b hb).1, (h.blk b hb).2⟩, h.cell⟩

/-- cells of a row written anew -/
theorem isSome_setCells' (b : Nat) (vs : List Value) (o : Nat) (w : World) (a : Addr) (h : (w.cell? a).isSome = true) : ((w.setCells b o vs).cell? a).isSome = true := by
  have : ∀ (vs : List Value) (o : Nat) (w : World), (w.cell? a).isSome = true → ((w.setCells b o vs).cell? a).isSome = true := by
    intro vs
    induction vs with
    | nil => intro o w h; exact h
    | cons v r ih =>
      intro o w h
      rw [World.setCells]
      refine ih _ _ ?_
      by_cases e : (⟨b, o, Option.none⟩ : Addr) = a
      · obtain ⟨u, hu⟩ := Option.isSome_iff_exists.1 h
        rw [← e] at hu ⊢
        rw [World.cell?_setCell_same _ _ _ hu]; rfl
      · rw [World.cell?_setCell_other _ _ _ _ e]; exact h
  exact this vs o w h

theorem Cells.setCells {a : Addr} {x y z vs : List Value} (h : Cells w (some a) (x ++ y ++ z)) (hs : a.spot = Option.none) (hl : vs.length = y.length) (hex : ∀ i, i < vs.length → (w.cell? (a.add (x.length + i))).isSome = true) :
    Cells (w.setCells a.block (a.off + x.length) vs) (some a) (x ++ vs ++ z) := by
  have ea : ∀ i, a.add i = ⟨a.block, a.off + i, Option.none⟩ := fun i => by cases a; simp at hs; subst hs; exact add_none
  intro i hi
  rw [ea]
  simp at hi
  by_cases h1 : i < x.length
  · rw [World.cell?_setCells_out _ _ _ _ _ (fun _ _ => by simp; omega)]
    have := h i (by simp; omega)
    rw [ea] at this
    rw [this, List.getElem_append_left (by simp; omega), List.getElem_append_left h1, List.getElem_append_left (by simp; omega), List.getElem_append_left h1]
  · by_cases h2 : i < x.length + vs.length
    · have := World.cell?_setCells_in a.block vs (a.off + x.length) w (fun j hj => by
        have := hex j hj
        rw [ea] at this
        rwa [show a.off + x.length + j = a.off + (x.length + j) by omega]) (i - x.length) (by omega)
      rw [show a.off + x.length + (i - x.length) = a.off + i by omega] at this
      rw [this, List.getElem_append_left (by simp; omega), List.getElem_append_right (by omega)]
    · rw [World.cell?_setCells_out _ _ _ _ _ (fun _ _ => by simp; omega)]
      have := h i (by simp; omega)
      rw [ea] at this
      rw [this, List.getElem_append_right (by simp; omega), List.getElem_append_right (by simp; omega)]
      simp [hl]
end
end Go.Vc
end

section
namespace Go.Vc
set_option linter.unusedVariables false
set_option linter.unusedSimpArgs false
set_option autoImplicit false

section
variable {α : Type} {c : Cod α} {w w1 : World} {s : Sl} {l : List α}

theorem add_eq {a : Addr} (hs : a.spot = none) (i : Nat) : a.add i = ⟨a.block, a.off + i, none⟩ := by cases a; simp at hs; subst hs; exact add_none

theorem cells_write {a : Addr} {vs : List Value} (hs : a.spot = none) (o : Nat) (hex : ∀ i, i < vs.length → (w.cell? (a.add (o + i))).isSome = true) :
    Cells (w.setCells a.block (a.off + o) vs) (some (a.add o)) vs := by
  intro i hi
  rw [add_add, add_eq hs]
  have := World.cell?_setCells_in a.block vs (a.off + o) w (fun j hj => by
    have := hex j hj
    rw [add_eq hs] at this
    rwa [show a.off + o + j = a.off + (o + j) by omega]) i hi
  rwa [show a.off + o + i = a.off + (o + i) by omega] at this
theorem cells_apart {a : Addr} {x vs : List Value} (hs : a.spot = none) (o p : Nat) (h : Cells w (some (a.add p)) x) (hp : p + x.length ≤ o ∨ o + vs.length ≤ p) :
    Cells (w.setCells a.block (a.off + o) vs) (some (a.add p)) x := by
  intro i hi
  have := h i hi
  rw [add_add, add_eq hs] at this ⊢
  rw [World.cell?_setCells_out _ _ _ _ _ (fun _ _ => by simp; omega)]
  exact this

theorem off_add {a : Addr} (hs : a.spot = none) (n : Nat) : (a.add n).off = a.off + n := by rw [add_eq hs]

theorem frozen_setCells' (b o : Nat) (vs : List Value) (a : Addr) : (w.setCells b o vs).frozen? a = w.frozen? a := World.frozen?_setCells b vs o w a

theorem Own.setCells {N sz : Nat} (h : Own N sz w s) (b o : Nat) (vs : List Value) : Own N sz (w.setCells b o vs) s where
  le := h.le
  nil := h.nil
  blk b' hb := ⟨(h.blk b' hb).1, by rw [setCells_size]; exact (h.blk b' hb).2⟩
  cell a ha := ⟨(h.cell a ha).1, fun i hi => ⟨isSome_setCells' _ _ _ _ _ ((h.cell a ha).2 i hi).1, by rw [frozen_setCells']; exact ((h.cell a ha).2 i hi).2⟩⟩

theorem appendN_own {N e by_ n : Nat} {new : List α} {bs : List Nat} {F : Sl → World → Prop} (h : Sees c w s l) (o : Own N c.sz w s) (hN : N ≤ w.heap.size) (hn : n = new.length)
    (hbs : ∀ b ∈ s.blk, b ∉ bs) (hpos : 0 < by_) (hb : (l.length + new.length) * by_ ≤ 140737488355328)
    (k : ∀ r w1, Sees c w1 r (l ++ new) → Own N c.sz w1 r → Upd s.blk [] w w1 → (∀ b ∈ r.blk, b ∈ s.blk ∨ w.heap.size ≤ b) → F r w1) : AppendN e c.sz by_ s n (c.cells new) bs w F := by
  subst hn
  have hlen := h.len
  refine ⟨fun hfit => ?_, fun hgrow => ⟨?_, ?_, c.cells l, h.rowAt, fun cap b cs w1 hcap u hb1 htake hsize => ?_⟩⟩
  · cases hp : s.ptr with
    | none =>
      have h0 := o.nil hp
      have e1 : new = [] := by cases new with | nil => rfl | cons => simp at hfit; omega
      subst e1
      have el : (⟨none, s.len + ([] : List α).length, s.cap⟩ : Sl) = s := by cases s; simp at hp; subst hp; rfl
      show F ⟨none, s.len + ([] : List α).length, s.cap⟩ w
      rw [el]
      exact k s w (by simpa using h) o ((Upd.refl w).wide (by simp)) (fun b hb => .inl hb)
    | some a =>
      obtain ⟨hs, hc⟩ := o.cell a hp
      have hmul : (s.len + new.length) * c.sz ≤ s.cap * c.sz := Nat.mul_le_mul_right _ hfit
      rw [Nat.add_mul] at hmul
      have hlc := c.cells_length new
      have hll := c.cells_length l
      have hrow := h.row
      rw [hp] at hrow
      refine ⟨fun i hi => ?_, ?_, ?_⟩
      · rw [add_add]
        exact hc _ (by omega)
      · simp only [add_block]
        exact hbs _ (by simp [blk_some hp])
      · show F _ (w.setCells (a.add (s.len * c.sz)).block (a.add (s.len * c.sz)).off (c.cells new))
        rw [off_add hs, add_block]
        refine k _ _ ⟨by simp [hlen], ?_⟩ ?_ ((Upd.setCells w a.block _ _).wide (by simp [blk_some hp])) (fun b hb => .inl (by simp [blk_some hp]; simpa [Sl.blk] using hb))
        · rw [c.cells_append]
          refine Cells.mk ?_ ?_
          · have := cells_apart (vs := c.cells new) hs (s.len * c.sz) 0 (by simpa using hrow) (.inl (by rw [hll, hlen]; omega))
            simpa using this
          · rw [hll, ← hlen]
            exact cells_write hs _ (fun i hi => (hc _ (by omega)).1)
        · have := (o.setCells a.block (a.off + s.len * c.sz) (c.cells new))
          exact ⟨by simp; omega, by simp, by simpa [Sl.blk, hp] using this.blk, fun a' ha' => by simp at ha'; subst ha'; exact this.cell a hp⟩
  · have : l.length + new.length ≤ (l.length + new.length) * by_ := Nat.le_mul_of_pos_right _ hpos
    omega
  · rw [hlen]
    rw [hlen] at hgrow
    exact growslice_fits hgrow hb
  · have hll := c.cells_length l
    have hln := c.cells_length new
    have hmul : (s.len + new.length) * c.sz + (cap - (s.len + new.length)) * c.sz = cap * c.sz := by rw [← Nat.add_mul]; congr 1; omega
    rw [Nat.add_mul] at hmul
    have hsz : cs.size = cap * c.sz := by rw [hsize, hll, hln, hlen] at *; omega
    have hget : ∀ i (hi : i < (c.cells l ++ c.cells new).length), cs[i]? = some (c.cells l ++ c.cells new)[i] := by
      intro i hi
      have e1 : (cs.toList.take ((c.cells l).length + (c.cells new).length))[i]? = some (c.cells l ++ c.cells new)[i] := by rw [htake]; exact List.getElem?_eq_getElem hi
      rw [List.getElem?_take, if_pos (by simpa using hi)] at e1
      simpa using e1
    have hbn := u.new (b := b) (by simp)
    refine k _ _ ⟨by simp [hlen], ?_⟩ ?_ ((u.mono (m' := s.blk) (n' := []) (by simp) (by simp))) (fun b' hb' => by simp [Sl.blk] at hb'; subst hb'; exact .inr hbn.1)
    · rw [c.cells_append]
      intro i hi
      rw [add_none, Nat.zero_add, cell_of_block hb1]
      exact hget i hi
    · refine ⟨by simpa using hcap, by simp, fun b' hb' => ?_, fun a ha => ?_⟩
      · simp [Sl.blk] at hb'
        subst hb'
        exact ⟨Nat.le_trans hN hbn.1, hbn.2⟩
      · simp at ha
        subst ha
        refine ⟨rfl, fun i hi => ?_⟩
        rw [add_none, cell_of_block hb1, frozen_of_block hb1]
        simp at hi
        simp [hsz, hi]

/-- append to a slice without room: new memory -/
theorem appendN_full {e by_ n : Nat} {new : List α} {bs : List Nat} {F : Sl → World → Prop} (h : Sees c w s l) (hfull : s.cap ≤ s.len) (hn : n = new.length) (hn0 : 0 < n)
    (hpos : 0 < by_) (hb : (l.length + new.length) * by_ ≤ 140737488355328)
    (k : ∀ r w1, Sees c w1 r (l ++ new) → Own w.heap.size c.sz w1 r → Upd [] [] w w1 → F r w1) : AppendN e c.sz by_ s n (c.cells new) bs w F := by
  subst hn
  have hlen := h.len
  refine ⟨fun hfit => by omega, fun hgrow => ⟨?_, ?_, c.cells l, h.rowAt, fun cap b cs w1 hcap u hb1 htake hsize => ?_⟩⟩
  · have : l.length + new.length ≤ (l.length + new.length) * by_ := Nat.le_mul_of_pos_right _ hpos
    omega
  · rw [hlen]
    rw [hlen] at hgrow
    exact growslice_fits hgrow hb
  · have hll := c.cells_length l
    have hln := c.cells_length new
    have hmul : (s.len + new.length) * c.sz + (cap - (s.len + new.length)) * c.sz = cap * c.sz := by rw [← Nat.add_mul]; congr 1; omega
    rw [Nat.add_mul] at hmul
    have hsz : cs.size = cap * c.sz := by rw [hsize, hll, hln, hlen] at *; omega
    have hget : ∀ i (hi : i < (c.cells l ++ c.cells new).length), cs[i]? = some (c.cells l ++ c.cells new)[i] := by
      intro i hi
      have e1 : (cs.toList.take ((c.cells l).length + (c.cells new).length))[i]? = some (c.cells l ++ c.cells new)[i] := by rw [htake]; exact List.getElem?_eq_getElem hi
      rw [List.getElem?_take, if_pos (by simpa using hi)] at e1
      simpa using e1
    have hbn := u.new (b := b) (by simp)
    refine k _ _ ⟨by simp [hlen], ?_⟩ ?_ u.forget
    · rw [c.cells_append]
      intro i hi
      rw [add_none, Nat.zero_add, cell_of_block hb1]
      exact hget i hi
    · refine ⟨by simpa using hcap, by simp, fun b' hb' => ?_, fun a ha => ?_⟩
      · simp [Sl.blk] at hb'
        subst hb'
        exact hbn
      · simp at ha
        subst ha
        refine ⟨rfl, fun i hi => ?_⟩
        rw [add_none, cell_of_block hb1, frozen_of_block hb1]
        simp at hi
        simp [hsz, hi]

theorem append_own {N e by_ : Nat} {x : Sl} {new : List α} {bs : List Nat} {F : Sl → World → Prop} (h : Sees c w s l) (o : Own N c.sz w s) (hx : Sees c w x new) (hN : N ≤ w.heap.size)
    (hbs : ∀ b ∈ s.blk, b ∉ bs) (hpos : 0 < by_) (hb : (l.length + new.length) * by_ ≤ 140737488355328)
    (k : ∀ r w1, Sees c w1 r (l ++ new) → Own N c.sz w1 r → Upd s.blk [] w w1 → (∀ b ∈ r.blk, b ∈ s.blk ∨ w.heap.size ≤ b) → F r w1) : Append e c.sz by_ s x bs w F :=
  ⟨c.cells new, hx.rowAt, appendN_own h o hN hx.len hbs hpos hb k⟩
theorem append_full {e by_ : Nat} {x : Sl} {new : List α} {bs : List Nat} {F : Sl → World → Prop} (h : Sees c w s l) (hfull : s.cap ≤ s.len) (hx : Sees c w x new) (hn0 : 0 < new.length)
    (hpos : 0 < by_) (hb : (l.length + new.length) * by_ ≤ 140737488355328)
    (k : ∀ r w1, Sees c w1 r (l ++ new) → Own w.heap.size c.sz w1 r → Upd [] [] w w1 → F r w1) : Append e c.sz by_ s x bs w F :=
  ⟨c.cells new, hx.rowAt, appendN_full h hfull hx.len (by rw [hx.len]; exact hn0) hpos hb k⟩

/-- an element is written -/
theorem own_set {N : Nat} {i : Nat} {x : α} {vs : List Value} {bs : List Nat} {F : World → Prop} (h : Sees c w s l) (o : Own N c.sz w s) (hz : 0 < c.sz) (hi : i < l.length) (hv : vs = c.enc x) (hbs : ∀ b ∈ s.blk, b ∉ bs)
    (k : ∀ w1, Sees c w1 s (l.set i x) → Own N c.sz w1 s → Upd s.blk [] w w1 → F w1) : Store w (s.at c.sz i) vs bs F := by
  subst hv
  obtain ⟨a, hp⟩ := h.ptr_some hz (by omega)
  obtain ⟨hs, hc⟩ := o.cell a hp
  have hat : s.at c.sz i = a.add (i * c.sz) := by simp [Sl.at, hp]
  have hlen := h.len
  have hle := o.le
  have hlx := c.len x
  have hrow := h.row
  rw [hp] at hrow
  have hm : ∀ j, j < c.sz → i * c.sz + j < s.cap * c.sz := fun j hj => mul_add_lt (by omega) hj
  refine ⟨fun j hj => ?_, ?_, ?_⟩
  · rw [hat, add_add]
    exact hc _ (hm j (by omega))
  · rw [hat, add_block]
    exact hbs _ (by simp [blk_some hp])
  · rw [hat, off_add hs, add_block]
    refine k _ ⟨by simpa using hlen, ?_⟩ (o.setCells _ _ _) ((Upd.setCells w a.block _ _).wide (by simp [blk_some hp]))
    rw [hp]
    have e1 : l.set i x = l.take i ++ x :: l.drop (i + 1) := by rw [List.set_eq_take_append_cons_drop, if_pos hi]
    have e2 : l = l.take i ++ l.drop i := (List.take_append_drop i l).symm
    have e3 : l.drop i = l[i] :: l.drop (i + 1) := List.drop_eq_getElem_cons hi
    rw [e1, c.cells_append, c.cells_cons]
    have h1 : (c.cells (l.take i)).length = i * c.sz := by rw [c.cells_length, List.length_take]; congr 1; omega
    have hrow' : Cells w (some a) (c.cells (l.take i) ++ (c.enc l[i] ++ c.cells (l.drop (i + 1)))) := by
      rw [← c.cells_cons, ← e3, ← c.cells_append, ← e2]; exact hrow
    obtain ⟨r1, r2⟩ := hrow'.app
    obtain ⟨r3, r4⟩ := r2.app
    rw [h1] at r4
    rw [add_add, c.len] at r4
    refine Cells.mk ?_ (Cells.mk ?_ ?_)
    · have := cells_apart (vs := c.enc x) hs (i * c.sz) 0 (by simpa using r1) (.inl (by omega))
      simpa using this
    · rw [h1]
      exact cells_write hs _ (fun j hj => (hc _ (hm j (by omega))).1)
    · rw [h1, add_add, hlx]
      exact cells_apart hs _ _ r4 (.inr (by omega))

/-- a new row -/
theorem sees_row {b e n cap : Nat} {f : Nat × Nat} {cs : List Value} (h : w.heap[b]? = some (.cells cs.toArray e f)) (l : List α) (hl : cs = c.cells l) (hn : n = l.length) : Sees c w ⟨some ⟨b, 0, none⟩, n, cap⟩ l := by
  subst hl hn
  refine ⟨rfl, fun i hi => ?_⟩
  rw [add_none, cell_of_block h]
  simp [hi]
theorem own_row {N b e n cap : Nat} {cs : List Value} {sz : Nat} (h : w.heap[b]? = some (.cells cs.toArray e (0, 0))) (hN : N ≤ b) (hl : cs.length = cap * sz) (hn : n ≤ cap) : Own N sz w ⟨some ⟨b, 0, none⟩, n, cap⟩ where
  le := hn
  nil := by simp
  blk b' hb := by simp [Sl.blk] at hb; subst hb; exact ⟨hN, (Array.getElem?_eq_some_iff.1 h).1⟩
  cell a ha := by
    simp at ha
    subst ha
    refine ⟨rfl, fun i hi => ?_⟩
    rw [add_none, cell_of_block h, frozen_of_block h]
    simp at hi
    simp [hl, hi]

theorem copy_own {N : Nat} {x : Sl} {m : List α} {bs : List Nat} {F : World → Prop} (h : Sees c w s l) (o : Own N c.sz w s) (hx : Sees c w x m) (hbs : ∀ b ∈ s.blk, b ∉ bs)
    (k : ∀ w1, Sees c w1 s (m.take l.length ++ l.drop m.length) → Own N c.sz w1 s → Upd s.blk [] w w1 → F w1) : Copy c.sz s x bs w F := by
  have hlen := h.len
  have hxl := hx.len
  have hle := o.le
  refine ⟨c.cells (m.take l.length), ?_, ?_⟩
  · have := (hx.take (n := min m.length l.length) (by omega) 0).rowAt
    rw [show Nat.min x.len s.len = min m.length l.length by rw [hxl, hlen]]
    have e : m.take (min m.length l.length) = m.take l.length := by rw [List.take_eq_take_iff]; omega
    rw [e] at this
    exact this
  · cases hp : s.ptr with
    | none =>
      have h0 := o.nil hp
      have e1 : l = [] := by cases l with | nil => rfl | cons => simp at hlen; omega
      subst e1
      simp only
      exact k w (by simpa using h) o ((Upd.refl w).wide (by simp))
    | some a =>
      obtain ⟨hs, hc⟩ := o.cell a hp
      have hrow := h.row
      rw [hp] at hrow
      have h1 : (c.cells (m.take l.length)).length = min l.length m.length * c.sz := by rw [c.cells_length, List.length_take]
      have hm : (c.cells (m.take l.length)).length ≤ s.cap * c.sz := by rw [h1]; exact Nat.mul_le_mul_right _ (by omega)
      refine ⟨fun i hi => hc i (by omega), hbs _ (by simp [blk_some hp]), ?_⟩
      refine k _ ⟨by simp; omega, ?_⟩ (o.setCells _ _ _) ((Upd.setCells w a.block _ _).wide (by simp [blk_some hp]))
      rw [hp, c.cells_append]
      refine Cells.mk ?_ ?_
      · have := cells_write (w := w) (vs := c.cells (m.take l.length)) hs 0 (fun i hi => by simpa using (hc i (by omega)).1)
        simpa using this
      · have hd : l.drop m.length = l.drop (min l.length m.length) := by
          by_cases g : m.length ≤ l.length
          · rw [Nat.min_eq_right g]
          · rw [List.drop_of_length_le (by omega), List.drop_of_length_le (by omega)]
        rw [hd, h1]
        have e2 : Cells w (some a) (c.cells (l.take (min l.length m.length)) ++ c.cells (l.drop (min l.length m.length))) := by rw [← c.cells_append, List.take_append_drop]; exact hrow
        have r := e2.app.2
        have h2 : (c.cells (l.take (min l.length m.length))).length = min l.length m.length * c.sz := by rw [c.cells_length, List.length_take]; congr 1; omega
        rw [h2] at r
        have := cells_apart (vs := c.cells (m.take l.length)) hs 0 _ r (.inr (by omega))
        simpa using this
end

theorem Cod.cells_map1 {α : Type} {c : Cod α} {g : α → Value} (h : ∀ x, c.enc x = [g x]) : ∀ (l : List α), c.cells l = l.map g
  | [] => rfl
  | x :: l => by rw [Cod.cells_cons, h, Cod.cells_map1 h l]; rfl

/-! ### bytes -/
def cU8 : Cod Int := ⟨1, fun n => [.int .u8 n], fun _ => rfl, by simp [Value.oneCell']⟩
def cI64 : Cod Int := ⟨1, fun n => [.int .i64 n], fun _ => rfl, by simp [Value.oneCell']⟩
def cSl : Cod Sl := ⟨1, fun s => [s.val], fun _ => rfl, by simp [Value.oneCell', Sl.val]⟩
abbrev SeesB (w : World) (s : Sl) (l : List Int) : Prop := Sees cU8 w s l
/-- the byte at a place (0 outside) -/
def bt (l : List Int) (i : Int) : Int := l.getD i.toNat 0
def Byt (l : List Int) : Prop := ∀ x ∈ l, 0 ≤ x ∧ x < 256
theorem Byt.bt {l : List Int} (h : Byt l) (i : Int) : 0 ≤ bt l i ∧ bt l i < 256 := by
  unfold Go.Vc.bt
  rw [List.getD_eq_getElem?_getD]
  by_cases hi : i.toNat < l.length
  · rw [List.getElem?_eq_getElem hi]; exact h _ (List.getElem_mem hi)
  · rw [List.getElem?_eq_none (by omega)]; simp
theorem Byt.app {l m : List Int} (h : Byt l) (k : Byt m) : Byt (l ++ m) := fun x hx => by rcases List.mem_append.1 hx with h' | h'; exact h x h'; exact k x h'
theorem Byt.nil : Byt [] := by simp [Byt]
theorem Byt.take {l : List Int} (h : Byt l) (n : Nat) : Byt (l.take n) := fun x hx => h x (List.mem_of_mem_take hx)
theorem Byt.drop {l : List Int} (h : Byt l) (n : Nat) : Byt (l.drop n) := fun x hx => h x (List.mem_of_mem_drop hx)
theorem Byt.set {l : List Int} (h : Byt l) (n : Nat) {v : Int} (hv : 0 ≤ v ∧ v < 256) : Byt (l.set n v) := fun x hx => by
  rcases List.mem_or_eq_of_mem_set hx with h' | h'
  · exact h x h'
  · subst h'; exact hv
theorem Sees.byte {w : World} {s : Sl} {l : List Int} (h : Sees cU8 w s l) {i : Int} (h0 : 0 ≤ i) (hi : i < l.length) : w.cell? (s.at 1 i.toNat) = some (.int .u8 (bt l i)) := by
  have := h.elem (i := i.toNat) (by omega) 0 (by simp [cU8])
  rw [add_zero] at this
  rw [show cU8.sz = 1 from rfl] at this
  rw [this]
  simp [cU8, bt, List.getD_eq_getElem?_getD, List.getElem?_eq_getElem (show i.toNat < l.length by omega)]
theorem Sees.subB {w : World} {s : Sl} {l : List Int} (h : Sees cU8 w s l) {lo hi mx : Nat} (h1 : lo ≤ hi) (h2 : hi ≤ l.length) (h3 : hi ≤ mx) : Sees cU8 w (s.sub 1 lo hi mx) ((l.take hi).drop lo) := h.sub h1 h2 h3
end Go.Vc
end

section
namespace Go.Vc
set_option linter.unusedVariables false
set_option linter.unusedSimpArgs false
set_option autoImplicit false

/-! ### steps of a statement -/
section
variable {X Y : Prop}
theorem brd {p : Prop} [Decidable p] (h1 : p → X) (h2 : ¬p → Y) : Br (decide p) X Y := Br_iff.2 ⟨fun h => h1 (of_decide_eq_true h), fun h => h2 (of_decide_eq_false h)⟩
theorem brb {c : Bool} (h1 : c = true → X) (h2 : c = false → Y) : Br c X Y := Br_iff.2 ⟨h1, h2⟩
theorem brn {c : Bool} (h1 : c = false → X) (h2 : c = true → Y) : Br (!c) X Y := Br_iff.2 ⟨fun h => h1 (by simpa using h), fun h => h2 (by simpa using h)⟩
theorem bre {α : Type} [BEq α] [LawfulBEq α] {a b : α} (h1 : a = b → X) (h2 : a ≠ b → Y) : Br (a == b) X Y := Br_iff.2 ⟨fun h => h1 (by simpa using h), fun h => h2 (by simpa using h)⟩
theorem bre' {α : Type} [BEq α] [LawfulBEq α] {a b : α} (h1 : a ≠ b → X) (h2 : a = b → Y) : Br (a != b) X Y := Br_iff.2 ⟨fun h => h1 (by simpa using h), fun h => h2 (by simpa using h)⟩
theorem brt {c : Bool} (h : c = true) (x : X) : Br c X Y := by subst h; exact x
theorem brf {c : Bool} (h : c = false) (y : Y) : Br c X Y := by subst h; exact y
theorem need {c : Bool} (h : c = true) (x : X) : Need c X := Need_iff.2 ⟨h, x⟩
theorem needIx {i n : Int} {o : Option Addr} (h0 : 0 ≤ i) (h1 : i < n) (h2 : o.isSome = true) (x : X) : Need (decide (0 ≤ i) && decide (i < n) && o.isSome) X := need (by simp [h0, h1, h2]) x
theorem needIx2 {i n : Int} (h0 : 0 ≤ i) (h1 : i < n) (x : X) : Need (decide (0 ≤ i) && decide (i < n)) X := need (by simp [h0, h1]) x
theorem needIxLe {i n : Int} (h0 : 0 ≤ i) (h1 : i ≤ n) (x : X) : Need (decide (0 ≤ i) && decide (i ≤ n)) X := need (by simp [h0, h1]) x
theorem needD {p : Prop} [Decidable p] (h : p) (x : X) : Need (decide p) X := need (by simp [h]) x
theorem needNe {a b : Int} (h : a ≠ b) (x : X) : Need (a != b) X := need (by simp [h]) x
theorem needSl {l h m : Int} (a : 0 ≤ h) (b : h ≤ m) (c : 0 ≤ l) (d : l ≤ h) (x : X) : Need (decide (0 ≤ h) && decide (h ≤ m) && (decide (0 ≤ l) && decide (l ≤ (h.toNat : Int)))) X :=
  need (by simp [a, b, c]; omega) x
end

theorem Ret.mono {P : Program} {f : Nat} {args : List SV} {w : World} {R R' : SV → World → Prop} (h : Ret P f args w R) (k : ∀ r w1, R r w1 → R' r w1) : Ret P f args w R' := by
  unfold Ret at *
  exact h.mono fun e w' ⟨r, h1, h2⟩ => ⟨r, h1, k r w' h2⟩

/-! ### numbers -/
theorem wr_i64 {x : Int} (h1 : -9223372036854775808 ≤ x) (h2 : x ≤ 9223372036854775807) : wr .i64 x = x := by
  unfold wr IntKind.wrap
  simp only [IntKind.bits, IntKind.signed, Bool.true_and, decide_eq_true_eq, ge_iff_le]
  split <;> omega
theorem wr_succ {q : Nat} (h : q < 9223372036854775807) : wr .i64 ((q : Int) + 1) = ((q + 1 : Nat) : Int) := by rw [wr_i64 (by omega) (by omega)]; omega
theorem wr_u64 {x : Int} (h1 : 0 ≤ x) (h2 : x ≤ 18446744073709551615) : wr .u64 x = x := by
  unfold wr IntKind.wrap
  simp only [IntKind.bits, IntKind.signed, Bool.false_and, Bool.false_eq_true, if_false]
  omega
theorem wr_u32 (x : Int) : wr .u32 x = x % 4294967296 := by
  unfold wr IntKind.wrap
  simp only [IntKind.bits, IntKind.signed, Bool.false_and, Bool.false_eq_true, if_false]
  omega
theorem wr_u16 (x : Int) : wr .u16 x = x % 65536 := by
  unfold wr IntKind.wrap
  simp only [IntKind.bits, IntKind.signed, Bool.false_and, Bool.false_eq_true, if_false]
  omega
theorem wr_u8 (x : Int) : wr .u8 x = x % 256 := by
  unfold wr IntKind.wrap
  simp only [IntKind.bits, IntKind.signed, Bool.false_and, Bool.false_eq_true, if_false]
  omega
theorem wr_range (k : IntKind) (x : Int) : k.min ≤ wr k x ∧ wr k x ≤ k.max := by
  cases k <;> simp only [wr, IntKind.wrap, IntKind.min, IntKind.max, IntKind.bits, IntKind.signed, Bool.true_and, Bool.false_and, decide_eq_true_eq, Bool.false_eq_true, if_false, if_true, ge_iff_le] <;> (try split) <;> omega
theorem wr_u8_range (x : Int) : 0 ≤ wr .u8 x ∧ wr .u8 x < 256 := by rw [wr_u8]; omega

theorem ofInt_toNat {n : Nat} {a : Int} (h : 0 ≤ a) (h1 : a < 2 ^ n) : (BitVec.ofInt n a).toNat = a.toNat := by
  rw [BitVec.toNat_ofInt]
  rw [Int.emod_eq_of_lt h (by exact_mod_cast h1)]
theorem wr_nat_i64 {n : Nat} (h : n < 9223372036854775808) : (IntKind.i64).wrap (n : Int) = n := by have := wr_i64 (x := n) (by omega) (by omega); exact this

theorem iand_nat {a b : Int} (ha : 0 ≤ a) (ha1 : a < 9223372036854775808) (hb : 0 ≤ b) (hb1 : b < 9223372036854775808) : iand .i64 a b = ((a.toNat &&& b.toNat : Nat) : Int) := by
  unfold iand ibits
  rw [BitVec.toNat_and, ofInt_toNat ha (by simp only [IntKind.bits]; omega), ofInt_toNat hb (by simp only [IntKind.bits]; omega)]
  have : a.toNat &&& b.toNat ≤ a.toNat := Nat.and_le_left
  exact wr_nat_i64 (by omega)
theorem ior_nat {a b : Int} (ha : 0 ≤ a) (ha1 : a < 9223372036854775808) (hb : 0 ≤ b) (hb1 : b < 9223372036854775808) : ior .i64 a b = ((a.toNat ||| b.toNat : Nat) : Int) := by
  unfold ior ibits
  rw [BitVec.toNat_or, ofInt_toNat ha (by simp only [IntKind.bits]; omega), ofInt_toNat hb (by simp only [IntKind.bits]; omega)]
  have : a.toNat ||| b.toNat < 2 ^ 63 := Nat.or_lt_two_pow (by omega) (by omega)
  exact wr_nat_i64 (by omega)
theorem ixor_nat {a b : Int} (ha : 0 ≤ a) (ha1 : a < 9223372036854775808) (hb : 0 ≤ b) (hb1 : b < 9223372036854775808) : ixor .i64 a b = ((a.toNat ^^^ b.toNat : Nat) : Int) := by
  unfold ixor ibits
  rw [BitVec.toNat_xor, ofInt_toNat ha (by simp only [IntKind.bits]; omega), ofInt_toNat hb (by simp only [IntKind.bits]; omega)]
  have : a.toNat ^^^ b.toNat < 2 ^ 63 := Nat.xor_lt_two_pow (by omega) (by omega)
  exact wr_nat_i64 (by omega)
theorem ixor_u8 {a b : Int} (ha : 0 ≤ a) (ha1 : a < 256) (hb : 0 ≤ b) (hb1 : b < 256) : ixor .u8 a b = ((a.toNat ^^^ b.toNat : Nat) : Int) := by
  unfold ixor ibits
  rw [BitVec.toNat_xor, ofInt_toNat ha (by simp only [IntKind.bits]; omega), ofInt_toNat hb (by simp only [IntKind.bits]; omega)]
  have : a.toNat ^^^ b.toNat < 2 ^ 8 := Nat.xor_lt_two_pow (by omega) (by omega)
  have h := wr_u8 ((a.toNat ^^^ b.toNat : Nat) : Int)
  unfold wr at h
  rw [h]; omega
theorem iand_u8 {a b : Int} (ha : 0 ≤ a) (ha1 : a < 256) (hb : 0 ≤ b) (hb1 : b < 256) : iand .u8 a b = ((a.toNat &&& b.toNat : Nat) : Int) := by
  unfold iand ibits
  rw [BitVec.toNat_and, ofInt_toNat ha (by simp only [IntKind.bits]; omega), ofInt_toNat hb (by simp only [IntKind.bits]; omega)]
  have : a.toNat &&& b.toNat ≤ a.toNat := Nat.and_le_left
  have h := wr_u8 ((a.toNat &&& b.toNat : Nat) : Int)
  unfold wr at h
  rw [h]; omega
theorem ior_u8 {a b : Int} (ha : 0 ≤ a) (ha1 : a < 256) (hb : 0 ≤ b) (hb1 : b < 256) : ior .u8 a b = ((a.toNat ||| b.toNat : Nat) : Int) := by
  unfold ior ibits
  rw [BitVec.toNat_or, ofInt_toNat ha (by simp only [IntKind.bits]; omega), ofInt_toNat hb (by simp only [IntKind.bits]; omega)]
  have : a.toNat ||| b.toNat < 2 ^ 8 := Nat.or_lt_two_pow (by omega) (by omega)
  have h := wr_u8 ((a.toNat ||| b.toNat : Nat) : Int)
  unfold wr at h
  rw [h]; omega

/-- a mask of low bits, of any number -/
theorem iand_mask {a : Int} (m : Nat) (hm : m < 63) : iand .i64 a (2 ^ m - 1) = a % 2 ^ m := by
  have hp : (2 : Int) ^ m < 2 ^ 63 := by exact_mod_cast Nat.pow_lt_pow_right (by omega) hm
  have hp' : (2 : Nat) ^ m < 2 ^ 63 := Nat.pow_lt_pow_right (by omega) hm
  have h1 : (1 : Nat) ≤ 2 ^ m := Nat.one_le_two_pow
  unfold iand ibits
  rw [BitVec.toNat_and]
  have e1 : (BitVec.ofInt (IntKind.i64).bits (2 ^ m - 1)).toNat = 2 ^ m - 1 := by
    rw [ofInt_toNat (by have : (1 : Int) ≤ 2 ^ m := by exact_mod_cast h1
                        omega) (by simp only [IntKind.bits]; omega)]
    have : ((2 : Int) ^ m - 1) = ((2 ^ m - 1 : Nat) : Int) := by push_cast [h1]; rfl
    rw [this]; rfl
  rw [e1, Nat.and_two_pow_sub_one_eq_mod]
  have e2 : (((BitVec.ofInt (IntKind.i64).bits a).toNat % 2 ^ m : Nat) : Int) = a % 2 ^ m := by
    rw [BitVec.toNat_ofInt]
    push_cast
    rw [Int.toNat_of_nonneg (Int.emod_nonneg _ (by simp [IntKind.bits]))]
    exact Int.emod_emod_of_dvd a (by simp only [IntKind.bits]; exact ⟨2 ^ (64 - m), by rw [← Int.pow_add]; congr 1; omega⟩)
  rw [e2]
  have h3 : 0 ≤ a % 2 ^ m := Int.emod_nonneg _ (by exact_mod_cast (Nat.pos_iff_ne_zero.1 h1))
  have h4 : a % 2 ^ m < 2 ^ m := Int.emod_lt_of_pos _ (by exact_mod_cast h1)
  exact wr_i64 (by omega) (by omega)
theorem and_65535 (a : Int) : iand .i64 a 65535 = a % 65536 := iand_mask 16 (by omega)
theorem and_255 (a : Int) : iand .i64 a 255 = a % 256 := iand_mask 8 (by omega)
theorem and_1 (a : Int) : iand .i64 a 1 = a % 2 := iand_mask 1 (by omega)
theorem and_4095 (a : Int) : iand .i64 a 4095 = a % 4096 := iand_mask 12 (by omega)
theorem and_15 (a : Int) : iand .i64 a 15 = a % 16 := iand_mask 4 (by omega)

theorem gshr_i64 (a b : Int) (h : b ≤ 64) : gshr .i64 a b = a.fdiv (2 ^ b.toNat) := by
  unfold gshr
  rw [Nat.min_eq_left (by simp only [IntKind.bits]; omega)]
theorem gshr8 (a : Int) : gshr .i64 a 8 = a / 256 := by rw [gshr_i64 _ _ (by omega)]; exact Int.fdiv_eq_ediv_of_nonneg _ (by decide)
theorem gshr16 (a : Int) : gshr .i64 a 16 = a / 65536 := by rw [gshr_i64 _ _ (by omega)]; exact Int.fdiv_eq_ediv_of_nonneg _ (by decide)
theorem gshr12 (a : Int) : gshr .i64 a 12 = a / 4096 := by rw [gshr_i64 _ _ (by omega)]; exact Int.fdiv_eq_ediv_of_nonneg _ (by decide)
theorem gshr13 (a : Int) : gshr .i64 a 13 = a / 8192 := by rw [gshr_i64 _ _ (by omega)]; exact Int.fdiv_eq_ediv_of_nonneg _ (by decide)
theorem gshr4 (a : Int) : gshr .i64 a 4 = a / 16 := by rw [gshr_i64 _ _ (by omega)]; exact Int.fdiv_eq_ediv_of_nonneg _ (by decide)
theorem gshr24 (a : Int) : gshr .i64 a 24 = a / 16777216 := by rw [gshr_i64 _ _ (by omega)]; exact Int.fdiv_eq_ediv_of_nonneg _ (by decide)
theorem gshl_i64 (a b : Int) (h : b ≤ 64) : gshl .i64 a b = wr .i64 (a * 2 ^ b.toNat) := by
  unfold gshl
  rw [Nat.min_eq_left (by simp only [IntKind.bits]; omega)]; rfl
theorem gshl8 (a : Int) : gshl .i64 a 8 = wr .i64 (a * 256) := gshl_i64 a 8 (by omega)
theorem gshl16 (a : Int) : gshl .i64 a 16 = wr .i64 (a * 65536) := gshl_i64 a 16 (by omega)
theorem gshl24 (a : Int) : gshl .i64 a 24 = wr .i64 (a * 16777216) := gshl_i64 a 24 (by omega)
theorem gshl12 (a : Int) : gshl .i64 a 12 = wr .i64 (a * 4096) := gshl_i64 a 12 (by omega)
theorem gshl13 (a : Int) : gshl .i64 a 13 = wr .i64 (a * 8192) := gshl_i64 a 13 (by omega)

/-- high and low bits together -/
theorem ior_add {a b : Int} (m : Nat) (ha : 0 ≤ a) (ha1 : a < 9223372036854775808) (hd : a % 2 ^ m = 0) (hb : 0 ≤ b) (hb1 : b < 2 ^ m) (hm : m < 63) : ior .i64 a b = a + b := by
  have hp : (2 : Int) ^ m < 2 ^ 63 := by exact_mod_cast Nat.pow_lt_pow_right (by omega) hm
  rw [ior_nat ha ha1 hb (by omega)]
  have e : a.toNat = 2 ^ m * (a.toNat / 2 ^ m) := by
    have h1 : a.toNat % 2 ^ m = 0 := by
      have : ((a.toNat % 2 ^ m : Nat) : Int) = 0 := by push_cast; rw [Int.toNat_of_nonneg ha]; exact hd
      exact_mod_cast this
    have := Nat.div_add_mod a.toNat (2 ^ m)
    omega
  have hb2 : b.toNat < 2 ^ m := by
    have : ((b.toNat : Nat) : Int) < ((2 ^ m : Nat) : Int) := by push_cast; omega
    exact_mod_cast this
  rw [e, ← Nat.two_pow_add_eq_or_of_lt hb2, ← e]
  push_cast
  omega

theorem tmod_pos {a b : Int} (h : 0 ≤ a) : Int.tmod a b = a % b := Int.tmod_eq_emod_of_nonneg h
theorem tdiv_pos {a b : Int} (h : 0 ≤ a) : Int.tdiv a b = a / b := Int.tdiv_eq_ediv_of_nonneg h
end Go.Vc
end

section
open Go Go.Vc Go.Vc.S2 Go.Proofs
set_option maxRecDepth 100000
set_option linter.unusedVariables false
namespace Go.Vc.S2
def vc27 (src_0 : Int) (src_1 : Nat → Int) (dst_0 : Int) (dst_1 : Nat → Int) (proto : Int) (n : Int) (w : World) (R : SV → World → Prop) : Prop :=
  ∀ (b b_1 : Nat) (w1 : World),
    Upd [] [b_1, b] w w1 →
      Ret Try.prog 42 [SV.struct [SV.int IntKind.i64 src_0, SV.arr IntKind.u8 16 src_1]] w1 fun (r : SV) (w1_1 : World) =>
        ∃ (n_1 : Int),
          r = SV.int IntKind.i64 n_1 ∧
            Keeps [b, b_1] w1 w1_1 ∧
              ∀ (J : World → Prop),
                (∀ (w1 : World),
                    (∀ (J : World → Prop),
                        (∀ (w1 : World),
                            Br (n_1 == 4)
                                (∀ (b_2 : Nat) (w1_2 : World),
                                  Upd [] [b_2] w1 w1_2 →
                                    (World.heap w1_2)[b_2]? =
                                        some
                                          (Obj.cells
                                            {
                                              toList :=
                                                SV.cells
                                                  (SV.struct
                                                    [SV.int IntKind.u8 (src_1 0), SV.int IntKind.u8 (src_1 1), SV.int IntKind.u8 (src_1 2), SV.int IntKind.u8 (src_1 3),
                                                      SV.int IntKind.u8 (dst_1 0), SV.int IntKind.u8 (dst_1 1), SV.int IntKind.u8 (dst_1 2), SV.int IntKind.u8 (dst_1 3)]) }
                                            5) →
                                      Vc.Append 5 1 1 { ptr := none, len := 0, cap := 0 } { ptr := some { block := b_2, off := 0 }, len := 8, cap := 8 } [b, b_1] w1_2
                                        fun (r : Sl) (w : World) =>
                                        ∀ (b_3 : Nat) (w1 : World),
                                          Upd [] [b_3] w w1 →
                                            (World.heap w1)[b_3]? =
                                                some
                                                  (Obj.cells
                                                    {
                                                      toList :=
                                                        SV.cells
                                                          (SV.struct
                                                            [SV.int IntKind.u8 0, SV.int IntKind.u8 (wr IntKind.u8 proto),
                                                              SV.int IntKind.u8 (wr IntKind.u8 (wr IntKind.i64 (Int.tdiv n 256))),
                                                              SV.int IntKind.u8 (wr IntKind.u8 (Int.tmod n 256))]) }
                                                    5) →
                                              Vc.Append 5 1 1 r { ptr := some { block := b_3, off := 0 }, len := 4, cap := 4 } [b, b_1] w1 fun (r : Sl) (w : World) =>
                                                R (SV.tuple [SV.slice r, SV.int IntKind.i64 0]) w)
                                (∃ (I : Sl → Int → World → Prop),
                                  ∃ (M : Sl → Int → World → Nat),
                                    I { ptr := none, len := 0, cap := 0 } 0 w1 ∧
                                      ∀ (s : Sl) (n_2 : Int) (w1 : World),
                                        I s n_2 w1 →
                                          Br (decide (n_2 < 16))
                                            (Need (decide (0 ≤ n_2) && decide (n_2 < 16))
                                              (∀ (b_2 : Nat) (w1_2 : World),
                                                Upd [] [b_2] w1 w1_2 →
                                                  (World.heap w1_2)[b_2]? = some (Obj.cells { toList := SV.cells (SV.struct [SV.int IntKind.u8 (src_1 (Int.toNat n_2))]) } 5) →
                                                    Vc.Append 5 1 1 s { ptr := some { block := b_2, off := 0 }, len := 1, cap := 1 } [b, b_1] w1_2 fun (r : Sl) (w : World) =>
                                                      some (SV.box b 41 (SV.struct [SV.int IntKind.i64 src_0, SV.arr IntKind.u8 16 src_1])) =
                                                          some (SV.box b 41 (SV.struct [SV.int IntKind.i64 src_0, SV.arr IntKind.u8 16 src_1])) ∧
                                                        some (SV.box b_1 41 (SV.struct [SV.int IntKind.i64 dst_0, SV.arr IntKind.u8 16 dst_1])) =
                                                            some (SV.box b_1 41 (SV.struct [SV.int IntKind.i64 dst_0, SV.arr IntKind.u8 16 dst_1])) ∧
                                                          I r (wr IntKind.i64 (n_2 + 1)) w ∧ M r (wr IntKind.i64 (n_2 + 1)) w < M s n_2 w1))
                                            (∃ (I : Sl → Int → World → Prop),
                                              ∃ (M : Sl → Int → World → Nat),
                                                I s 0 w1 ∧
                                                  ∀ (s : Sl) (n_3 : Int) (w1 : World),
                                                    I s n_3 w1 →
                                                      Br (decide (n_3 < 16))
                                                        (Need (decide (0 ≤ n_3) && decide (n_3 < 16))
                                                          (∀ (b_2 : Nat) (w1_2 : World),
                                                            Upd [] [b_2] w1 w1_2 →
                                                              (World.heap w1_2)[b_2]? =
                                                                  some (Obj.cells { toList := SV.cells (SV.struct [SV.int IntKind.u8 (dst_1 (Int.toNat n_3))]) } 5) →
                                                                Vc.Append 5 1 1 s { ptr := some { block := b_2, off := 0 }, len := 1, cap := 1 } [b, b_1] w1_2
                                                                  fun (r : Sl) (w : World) =>
                                                                  some (SV.box b 41 (SV.struct [SV.int IntKind.i64 src_0, SV.arr IntKind.u8 16 src_1])) =
                                                                      some (SV.box b 41 (SV.struct [SV.int IntKind.i64 src_0, SV.arr IntKind.u8 16 src_1])) ∧
                                                                    some (SV.box b_1 41 (SV.struct [SV.int IntKind.i64 dst_0, SV.arr IntKind.u8 16 dst_1])) =
                                                                        some (SV.box b_1 41 (SV.struct [SV.int IntKind.i64 dst_0, SV.arr IntKind.u8 16 dst_1])) ∧
                                                                      I r (wr IntKind.i64 (n_3 + 1)) w ∧ M r (wr IntKind.i64 (n_3 + 1)) w < M s n_3 w1))
                                                        (∀ (b_2 : Nat) (w1_2 : World),
                                                          Upd [] [b_2] w1 w1_2 →
                                                            (World.heap w1_2)[b_2]? =
                                                                some
                                                                  (Obj.cells
                                                                    {
                                                                      toList :=
                                                                        SV.cells
                                                                          (SV.struct
                                                                            [SV.int IntKind.u8 0, SV.int IntKind.u8 0,
                                                                              SV.int IntKind.u8 (wr IntKind.u8 (wr IntKind.i64 (Int.tdiv n 256))),
                                                                              SV.int IntKind.u8 (wr IntKind.u8 (Int.tmod n 256)), SV.int IntKind.u8 0, SV.int IntKind.u8 0,
                                                                              SV.int IntKind.u8 0, SV.int IntKind.u8 (wr IntKind.u8 proto)]) }
                                                                    5) →
                                                              Vc.Append 5 1 1 s { ptr := some { block := b_2, off := 0 }, len := 8, cap := 8 } [b, b_1] w1_2
                                                                fun (r : Sl) (w : World) => R (SV.tuple [SV.slice r, SV.int IntKind.i64 0]) w))) →
                              J w1) →
                          Br (decide (proto < 0)) (R (SV.tuple [SV.slice { ptr := none, len := 0, cap := 0 }, SV.int IntKind.i64 1]) w1)
                            (Br (decide (proto > 255)) (R (SV.tuple [SV.slice { ptr := none, len := 0, cap := 0 }, SV.int IntKind.i64 1]) w1)
                              (Br (decide (n < 0)) (R (SV.tuple [SV.slice { ptr := none, len := 0, cap := 0 }, SV.int IntKind.i64 1]) w1)
                                (Br (decide (n > 65535)) (R (SV.tuple [SV.slice { ptr := none, len := 0, cap := 0 }, SV.int IntKind.i64 1]) w1)
                                  (some (SV.box b 41 (SV.struct [SV.int IntKind.i64 src_0, SV.arr IntKind.u8 16 src_1])) =
                                      some (SV.box b 41 (SV.struct [SV.int IntKind.i64 src_0, SV.arr IntKind.u8 16 src_1])) ∧
                                    some (SV.box b_1 41 (SV.struct [SV.int IntKind.i64 dst_0, SV.arr IntKind.u8 16 dst_1])) =
                                        some (SV.box b_1 41 (SV.struct [SV.int IntKind.i64 dst_0, SV.arr IntKind.u8 16 dst_1])) ∧
                                      J w1))))) →
                      J w1) →
                  Br (n_1 == 0) (R (SV.tuple [SV.slice { ptr := none, len := 0, cap := 0 }, SV.int IntKind.i64 20]) w1_1)
                    (Ret Try.prog 42 [SV.struct [SV.int IntKind.i64 dst_0, SV.arr IntKind.u8 16 dst_1]] w1_1 fun (r : SV) (w1 : World) =>
                      ∃ (n : Int),
                        r = SV.int IntKind.i64 n ∧
                          Keeps [b, b_1] w1_1 w1 ∧
                            Br (n != n_1) (R (SV.tuple [SV.slice { ptr := none, len := 0, cap := 0 }, SV.int IntKind.i64 20]) w1)
                              (some (SV.box b 41 (SV.struct [SV.int IntKind.i64 src_0, SV.arr IntKind.u8 16 src_1])) =
                                  some (SV.box b 41 (SV.struct [SV.int IntKind.i64 src_0, SV.arr IntKind.u8 16 src_1])) ∧
                                some (SV.box b_1 41 (SV.struct [SV.int IntKind.i64 dst_0, SV.arr IntKind.u8 16 dst_1])) =
                                    some (SV.box b_1 41 (SV.struct [SV.int IntKind.i64 dst_0, SV.arr IntKind.u8 16 dst_1])) ∧
                                  J w1))
theorem f27_of (src_0 : Int) (src_1 : Nat → Int) (dst_0 : Int) (dst_1 : Nat → Int) (proto : Int) (n : Int) (w : World) (R : SV → World → Prop) (hV : vc27 src_0 src_1 dst_0 dst_1 proto n w R) : Ret Try.prog 27 [.struct [.int .i64 src_0, .arr .u8 16 src_1], .struct [.int .i64 dst_0, .arr .u8 16 dst_1], .int .i64 proto, .int .i64 n] w R :=
  have e : vc27 src_0 src_1 dst_0 dst_1 proto n w R = fnVC X Try.f27 a27 [.struct [.int .i64 src_0, .arr .u8 16 src_1], .struct [.int .i64 dst_0, .arr .u8 16 dst_1], .int .i64 proto, .int .i64 n] w R := by kernel_rfl
  fnVC_sound X_ok (n := a27) (e ▸ hV) (by kernel_rfl) (by kernel_rfl) rfl rfl

def vc42 (ip_0 : Int) (ip_1 : Nat → Int) (w : World) (R : SV → World → Prop) : Prop :=
  ∀ (b : Nat),
    Br (ip_0 == 6) (∀ (w1 : World), Upd [] [b] w w1 → R (SV.int IntKind.i64 6) w1)
      (∃ (I : Int → World → Prop),
        ∃ (M : Int → World → Nat),
          (∀ (w1 : World), Upd [] [b] w w1 → I 4 w1) ∧
            ∀ (n : Int) (w1 : World),
              I n w1 →
                Br (decide (n < 16))
                  (Need (decide (0 ≤ n) && decide (n < 16))
                    (Br (ip_1 (Int.toNat n) != 0) (R (SV.int IntKind.i64 0) w1)
                      (some (SV.box b 41 (SV.struct [SV.int IntKind.i64 ip_0, SV.arr IntKind.u8 16 ip_1])) =
                          some (SV.box b 41 (SV.struct [SV.int IntKind.i64 ip_0, SV.arr IntKind.u8 16 ip_1])) ∧
                        I (wr IntKind.i64 (n + 1)) w1 ∧ M (wr IntKind.i64 (n + 1)) w1 < M n w1)))
                  (Br (ip_0 == 4) (R (SV.int IntKind.i64 4) w1) (R (SV.int IntKind.i64 0) w1)))
theorem f42_of (ip_0 : Int) (ip_1 : Nat → Int) (w : World) (R : SV → World → Prop) (hV : vc42 ip_0 ip_1 w R) : Ret Try.prog 42 [.struct [.int .i64 ip_0, .arr .u8 16 ip_1]] w R :=
  have e : vc42 ip_0 ip_1 w R = fnVC X Try.f42 a42 [.struct [.int .i64 ip_0, .arr .u8 16 ip_1]] w R := by kernel_rfl
  fnVC_sound X_ok (n := a42) (e ▸ hV) (by kernel_rfl) (by kernel_rfl) rfl rfl

def vc33 (parts : Sl) (w : World) (R : SV → World → Prop) : Prop :=
  ∃ (I : Sl → Int → World → Prop),
    ∃ (M : Sl → Int → World → Nat),
      I { ptr := none, len := 0, cap := 0 } 0 w ∧
        ∀ (s : Sl) (n : Int) (w1 : World),
          I s n w1 →
            Br (decide (n < (↑parts.2 : Int)))
              (Need (decide (0 ≤ n) && decide (n < (↑parts.2 : Int)) && Option.isSome parts.1)
                (∃ (s_1 : Sl),
                  World.cell? w1 (Sl.at parts 1 (Int.toNat n)) = some (Sl.val s_1) ∧
                    Ret Try.prog 46 [SV.slice s_1] w1 fun (r : SV) (w1_1 : World) =>
                      ∃ (s_2 : Sl),
                        r = SV.slice s_2 ∧
                          ∀ (b : Nat) (w1_2 : World),
                            Upd [] [b] w1_1 w1_2 →
                              (World.heap w1_2)[b]? = some (Obj.cells { toList := SV.cells (SV.struct [SV.slice s_2]) } 24) →
                                Vc.Append 24 1 24 s { ptr := some { block := b, off := 0 }, len := 1, cap := 1 } [] w1_2 fun (r : Sl) (w : World) =>
                                  I r (wr IntKind.i64 (n + 1)) w ∧ M r (wr IntKind.i64 (n + 1)) w < M s n w1))
              (∃ (I : Sl → Int → World → Prop),
                ∃ (M : Sl → Int → World → Nat),
                  I s 0 w1 ∧
                    ∀ (s : Sl) (n : Int) (w1 : World),
                      I s n w1 →
                        Br (decide (n < wr IntKind.i64 ((↑parts.2 : Int) + 9)))
                          (∀ (b : Nat) (w1_1 : World),
                            Upd [] [b] w1 w1_1 →
                              (World.heap w1_1)[b]? = some (Obj.cells { toList := SV.cells (SV.struct [SV.int IntKind.u8 (wr IntKind.u8 n), SV.int IntKind.u8 7]) } 5) →
                                ∀ (b_1 : Nat) (w1_2 : World),
                                  Upd [] [b_1] w1_1 w1_2 →
                                    (World.heap w1_2)[b_1]? =
                                        some (Obj.cells { toList := SV.cells (SV.struct [SV.slice { ptr := some { block := b, off := 0 }, len := 2, cap := 2 }]) } 24) →
                                      Vc.Append 24 1 24 s { ptr := some { block := b_1, off := 0 }, len := 1, cap := 1 } [] w1_2 fun (r : Sl) (w : World) =>
                                        I r (wr IntKind.i64 (n + 1)) w ∧ M r (wr IntKind.i64 (n + 1)) w < M s n w1)
                          (Need (decide (0 ≤ (↑parts.2 : Int)) && decide ((↑parts.2 : Int) ≤ (↑s.3 : Int))) (R (SV.slice (Sl.sub s 1 0 (Int.toNat (↑parts.2 : Int)) s.3)) w1)))
theorem f33_of (parts : Sl) (w : World) (R : SV → World → Prop) (hV : vc33 parts w R) : Ret Try.prog 33 [.slice parts] w R :=
  have e : vc33 parts w R = fnVC X Try.f33 a33 [.slice parts] w R := by kernel_rfl
  fnVC_sound X_ok (n := a33) (e ▸ hV) (by kernel_rfl) (by kernel_rfl) rfl rfl

def vc34 (b : Sl) (w : World) (R : SV → World → Prop) : Prop :=
  Vc.Append 5 1 1 { ptr := none, len := 0, cap := 0 } b [] w fun (r : Sl) (w : World) => R (SV.slice r) w
theorem f34_of (b : Sl) (w : World) (R : SV → World → Prop) (hV : vc34 b w R) : Ret Try.prog 34 [.slice b] w R :=
  have e : vc34 b w R = fnVC X Try.f34 a34 [.slice b] w R := by kernel_rfl
  fnVC_sound X_ok (n := a34) (e ▸ hV) (by kernel_rfl) (by kernel_rfl) rfl rfl

def vc35 (p0 : Sl) (parts : Sl) (w : World) (R : SV → World → Prop) : Prop :=
  Br ((↑p0.2 : Int) != (↑parts.2 : Int)) (R (SV.bool false) w)
    (∃ (I : Int → World → Prop),
      ∃ (M : Int → World → Nat),
        I 0 w ∧
          ∀ (n : Int) (w1 : World),
            I n w1 →
              Br (decide (n < (↑p0.2 : Int)))
                (Need (decide (0 ≤ n) && decide (n < (↑p0.2 : Int)) && Option.isSome p0.1)
                  (∃ (s : Sl),
                    World.cell? w1 (Sl.at p0 1 (Int.toNat n)) = some (Sl.val s) ∧
                      Need (decide (0 ≤ n) && decide (n < (↑parts.2 : Int)) && Option.isSome parts.1)
                        (∃ (s_1 : Sl),
                          World.cell? w1 (Sl.at parts 1 (Int.toNat n)) = some (Sl.val s_1) ∧
                            ∀ (w1_1 : World),
                              Upd [] [] w1 w1_1 →
                                Ret Try.prog 47 [SV.slice s, SV.slice s_1] w1_1 fun (r : SV) (w1_2 : World) =>
                                  ∃ (b : Bool), r = SV.bool b ∧ Br (!b) (R (SV.bool false) w1_2) (I (wr IntKind.i64 (n + 1)) w1_2 ∧ M (wr IntKind.i64 (n + 1)) w1_2 < M n w1))))
                (Need (decide (0 ≤ wr IntKind.i64 (wr IntKind.i64 (2 * (↑parts.2 : Int)) + 9)) && decide (wr IntKind.i64 (wr IntKind.i64 (2 * (↑parts.2 : Int)) + 9) ≤ (↑p0.3 : Int)))
                  (∃ (I : Int → World → Prop),
                    ∃ (M : Int → World → Nat),
                      I 0 w1 ∧
                        ∀ (n : Int) (w1 : World),
                          I n w1 →
                            Br (decide (n < wr IntKind.i64 ((↑parts.2 : Int) + 9)))
                              (∀ (J : World → Prop),
                                (∀ (w1_1 : World), I (wr IntKind.i64 (n + 1)) w1_1 ∧ M (wr IntKind.i64 (n + 1)) w1_1 < M n w1 → J w1_1) →
                                  Need
                                    (decide (0 ≤ wr IntKind.i64 ((↑parts.2 : Int) + n)) &&
                                        decide
                                          (wr IntKind.i64 ((↑parts.2 : Int) + n) <
                                            (↑(Sl.sub p0 1 0 (Int.toNat (wr IntKind.i64 (wr IntKind.i64 (2 * (↑parts.2 : Int)) + 9))) p0.3).2 : Int)) &&
                                      Option.isSome (Sl.sub p0 1 0 (Int.toNat (wr IntKind.i64 (wr IntKind.i64 (2 * (↑parts.2 : Int)) + 9))) p0.3).1)
                                    (∃ (s : Sl),
                                      World.cell? w1
                                            (Sl.at (Sl.sub p0 1 0 (Int.toNat (wr IntKind.i64 (wr IntKind.i64 (2 * (↑parts.2 : Int)) + 9))) p0.3) 1
                                              (Int.toNat (wr IntKind.i64 ((↑parts.2 : Int) + n)))) =
                                          some (Sl.val s) ∧
                                        Br ((↑s.2 : Int) != 2) (R (SV.bool false) w1)
                                          (Need (decide (0 < (↑s.2 : Int)) && Option.isSome s.1)
                                            (∃ (n_1 : Int),
                                              World.cell? w1 (Sl.at s 1 0) = some (Value.int IntKind.u8 n_1) ∧
                                                Br (n_1 != wr IntKind.u8 n) (R (SV.bool false) w1)
                                                  (Need (decide (1 < (↑s.2 : Int)) && Option.isSome s.1)
                                                    (∃ (n : Int), World.cell? w1 (Sl.at s 1 1) = some (Value.int IntKind.u8 n) ∧ Br (n != 7) (R (SV.bool false) w1) (J w1)))))))
                              (R (SV.bool true) w1))))
theorem f35_of (p0 : Sl) (parts : Sl) (w : World) (R : SV → World → Prop) (hV : vc35 p0 parts w R) : Ret Try.prog 35 [.slice p0, .slice parts] w R :=
  have e : vc35 p0 parts w R = fnVC X Try.f35 a35 [.slice p0, .slice parts] w R := by kernel_rfl
  fnVC_sound X_ok (n := a35) (e ▸ hV) (by kernel_rfl) (by kernel_rfl) rfl rfl

def vc36 (l : Sl) (t_0 : Int) (t_1 : Int) (t_2 : Int) (t_3 : Bool) (w : World) (R : SV → World → Prop) : Prop :=
  ∀ (b : Nat),
    Br ((↑l.2 : Int) == 0) (∀ (w1 : World), Upd [] [b] w w1 → R (SV.tuple []) w1)
      (∀ (w1 : World),
        Upd [] [b] w w1 →
          Ret Try.prog 48 [SV.int IntKind.i64 t_0, SV.int IntKind.i64 (↑l.2 : Int)] w1 fun (r : SV) (w1_1 : World) =>
            ∃ (n : Int),
              r = SV.int IntKind.i64 n ∧
                Keeps [b] w1 w1_1 ∧
                  Br t_3
                    (Br (decide (wr IntKind.i64 (n + 1) < (↑l.2 : Int)))
                      (Need (decide (0 ≤ wr IntKind.i64 (n + 1)) && decide (wr IntKind.i64 (n + 1) < (↑l.2 : Int)) && Option.isSome l.1)
                        (∃ (s : Sl),
                          World.cell? w1_1 (Sl.at l 1 (Int.toNat (wr IntKind.i64 (n + 1)))) = some (Sl.val s) ∧
                            Need (decide (0 ≤ n) && decide (n < (↑l.2 : Int)) && Option.isSome l.1)
                              (∃ (s_1 : Sl),
                                World.cell? w1_1 (Sl.at l 1 (Int.toNat n)) = some (Sl.val s_1) ∧
                                  Need (decide (0 ≤ n) && decide (n < (↑l.2 : Int)) && Option.isSome l.1)
                                    (∀ (w1 : World),
                                      Upd [] [] w1_1 w1 →
                                        Store w1 (Sl.at l 1 (Int.toNat n)) (SV.cells (SV.slice s)) [b] fun (w1 : World) =>
                                          Need (decide (0 ≤ wr IntKind.i64 (n + 1)) && decide (wr IntKind.i64 (n + 1) < (↑l.2 : Int)) && Option.isSome l.1)
                                            (Store w1 (Sl.at l 1 (Int.toNat (wr IntKind.i64 (n + 1)))) (SV.cells (SV.slice s_1)) [b] fun (w1 : World) => R (SV.tuple []) w1)))))
                      (Need (decide (0 ≤ n) && decide (n < (↑l.2 : Int)) && Option.isSome l.1)
                        (∃ (s : Sl),
                          World.cell? w1_1 (Sl.at l 1 (Int.toNat n)) = some (Sl.val s) ∧
                            Br (decide ((↑s.2 : Int) > 0))
                              (Need (decide (0 ≤ n) && decide (n < (↑l.2 : Int)) && Option.isSome l.1)
                                (∃ (s : Sl),
                                  World.cell? w1_1 (Sl.at l 1 (Int.toNat n)) = some (Sl.val s) ∧
                                    Need (decide (0 ≤ n) && decide (n < (↑l.2 : Int)) && Option.isSome l.1)
                                      (∃ (s_1 : Sl),
                                        World.cell? w1_1 (Sl.at l 1 (Int.toNat n)) = some (Sl.val s_1) ∧
                                          ∀ (w1 : World),
                                            Upd [] [] w1_1 w1 →
                                              Ret Try.prog 48 [SV.int IntKind.i64 t_1, SV.int IntKind.i64 (↑s_1.2 : Int)] w1 fun (r : SV) (w1_2 : World) =>
                                                ∃ (n : Int),
                                                  r = SV.int IntKind.i64 n ∧
                                                    Keeps [b] w1 w1_2 ∧
                                                      Upd [] [] w1_1 w1_2 ∧
                                                        Need (decide (0 ≤ n) && decide (n < (↑s.2 : Int)) && Option.isSome s.1)
                                                          (Store w1_2 (Sl.at s 1 (Int.toNat n)) (SV.cells (SV.int IntKind.u8 t_2)) [b] fun (w1 : World) => R (SV.tuple []) w1))))
                              (R (SV.tuple []) w1_1))))
                    (Need (decide (0 ≤ n) && decide (n < (↑l.2 : Int)) && Option.isSome l.1)
                      (∃ (s : Sl),
                        World.cell? w1_1 (Sl.at l 1 (Int.toNat n)) = some (Sl.val s) ∧
                          Br (decide ((↑s.2 : Int) > 0))
                            (Need (decide (0 ≤ n) && decide (n < (↑l.2 : Int)) && Option.isSome l.1)
                              (∃ (s : Sl),
                                World.cell? w1_1 (Sl.at l 1 (Int.toNat n)) = some (Sl.val s) ∧
                                  Need (decide (0 ≤ n) && decide (n < (↑l.2 : Int)) && Option.isSome l.1)
                                    (∃ (s_1 : Sl),
                                      World.cell? w1_1 (Sl.at l 1 (Int.toNat n)) = some (Sl.val s_1) ∧
                                        ∀ (w1 : World),
                                          Upd [] [] w1_1 w1 →
                                            Ret Try.prog 48 [SV.int IntKind.i64 t_1, SV.int IntKind.i64 (↑s_1.2 : Int)] w1 fun (r : SV) (w1_2 : World) =>
                                              ∃ (n : Int),
                                                r = SV.int IntKind.i64 n ∧
                                                  Keeps [b] w1 w1_2 ∧
                                                    Upd [] [] w1_1 w1_2 ∧
                                                      Need (decide (0 ≤ n) && decide (n < (↑s.2 : Int)) && Option.isSome s.1)
                                                        (Store w1_2 (Sl.at s 1 (Int.toNat n)) (SV.cells (SV.int IntKind.u8 t_2)) [b] fun (w1 : World) => R (SV.tuple []) w1))))
                            (R (SV.tuple []) w1_1))))
theorem f36_of (l : Sl) (t_0 : Int) (t_1 : Int) (t_2 : Int) (t_3 : Bool) (w : World) (R : SV → World → Prop) (hV : vc36 l t_0 t_1 t_2 t_3 w R) : Ret Try.prog 36 [.slice l, .struct [.int .i64 t_0, .int .i64 t_1, .int .u8 t_2, .bool t_3]] w R :=
  have e : vc36 l t_0 t_1 t_2 t_3 w R = fnVC X Try.f36 a36 [.slice l, .struct [.int .i64 t_0, .int .i64 t_1, .int .u8 t_2, .bool t_3]] w R := by kernel_rfl
  fnVC_sound X_ok (n := a36) (e ▸ hV) (by kernel_rfl) (by kernel_rfl) rfl rfl

def vc37 (n : Int) (w : World) (R : SV → World → Prop) : Prop :=
  ∃ (I : Int → World → Prop),
    ∃ (M : Int → World → Nat),
      I n w ∧
        ∀ (n : Int) (w1 : World),
          I n w1 →
            Br (decide (n > 65535))
              (I (wr IntKind.i64 (iand IntKind.i64 n 65535 + gshr IntKind.i64 n 16)) w1 ∧ M (wr IntKind.i64 (iand IntKind.i64 n 65535 + gshr IntKind.i64 n 16)) w1 < M n w1)
              (R (SV.int IntKind.i64 n) w1)
theorem f37_of (n : Int) (w : World) (R : SV → World → Prop) (hV : vc37 n w R) : Ret Try.prog 37 [.int .i64 n] w R :=
  have e : vc37 n w R = fnVC X Try.f37 a37 [.int .i64 n] w R := by kernel_rfl
  fnVC_sound X_ok (n := a37) (e ▸ hV) (by kernel_rfl) (by kernel_rfl) rfl rfl

def vc38 (l : Sl) (w : World) (R : SV → World → Prop) : Prop :=
  ∃ (I : Int → Int → World → Prop),
    ∃ (M : Int → Int → World → Nat),
      I 70 0 w ∧
        ∀ (n n_1 : Int) (w1 : World),
          I n n_1 w1 →
            Br (decide (n_1 < (↑l.2 : Int)))
              (Need (decide (0 ≤ n_1) && decide (n_1 < (↑l.2 : Int)) && Option.isSome l.1)
                (∃ (s : Sl),
                  World.cell? w1 (Sl.at l 1 (Int.toNat n_1)) = some (Sl.val s) ∧
                    ∃ (I_1 : Int → World → Prop),
                      ∃ (M_1 : Int → World → Nat),
                        I_1 0 w1 ∧
                          ∀ (n_2 : Int) (w1_1 : World),
                            I_1 n_2 w1_1 →
                              Need (decide (0 ≤ n_1) && decide (n_1 < (↑l.2 : Int)) && Option.isSome l.1)
                                (∃ (s_1 : Sl),
                                  World.cell? w1_1 (Sl.at l 1 (Int.toNat n_1)) = some (Sl.val s_1) ∧
                                    Br (decide (n_2 < (↑s_1.2 : Int)))
                                      (Need (decide (0 ≤ n_1) && decide (n_1 < (↑l.2 : Int)) && Option.isSome l.1)
                                        (∃ (s : Sl),
                                          World.cell? w1_1 (Sl.at l 1 (Int.toNat n_1)) = some (Sl.val s) ∧
                                            Need (decide (0 ≤ n_2) && decide (n_2 < (↑s.2 : Int)) && Option.isSome s.1)
                                              (Store w1_1 (Sl.at s 1 (Int.toNat n_2)) (SV.cells (SV.int IntKind.u8 (wr IntKind.u8 (wr IntKind.i64 (Int.tmod n_1 200 + 40))))) []
                                                fun (w1 : World) => I_1 (wr IntKind.i64 (n_2 + 1)) w1 ∧ M_1 (wr IntKind.i64 (n_2 + 1)) w1 < M_1 n_2 w1_1)))
                                      (I (wr IntKind.i64 (n + (↑s.2 : Int))) (wr IntKind.i64 (n_1 + 1)) w1_1 ∧
                                        M (wr IntKind.i64 (n + (↑s.2 : Int))) (wr IntKind.i64 (n_1 + 1)) w1_1 < M n n_1 w1))))
              (∃ (I : Sl → Int → World → Prop),
                ∃ (M : Sl → Int → World → Nat),
                  I { ptr := none, len := 0, cap := 0 } 0 w1 ∧
                    ∀ (s : Sl) (n_2 : Int) (w1 : World),
                      I s n_2 w1 →
                        Br (decide (n_2 < (↑l.2 : Int)))
                          (Need (decide (0 ≤ n_2) && decide (n_2 < (↑l.2 : Int)) && Option.isSome l.1)
                            (∃ (s_1 : Sl),
                              World.cell? w1 (Sl.at l 1 (Int.toNat n_2)) = some (Sl.val s_1) ∧
                                ∃ (I_1 : Sl → Int → World → Prop),
                                  ∃ (M_1 : Sl → Int → World → Nat),
                                    I_1 s_1 0 w1 ∧
                                      ∀ (s_2 : Sl) (n_3 : Int) (w1_1 : World),
                                        I_1 s_2 n_3 w1_1 →
                                          Br (decide (n_3 < n))
                                            (∀ (b : Nat) (w1 : World),
                                              Upd [] [b] w1_1 w1 →
                                                (World.heap w1)[b]? =
                                                    some
                                                      (Obj.cells { toList := SV.cells (SV.struct [SV.int IntKind.u8 (wr IntKind.u8 (wr IntKind.i64 (Int.tmod n_2 200 + 40)))]) } 5) →
                                                  Vc.Append 5 1 1 s_2 { ptr := some { block := b, off := 0 }, len := 1, cap := 1 } [] w1 fun (r : Sl) (w : World) =>
                                                    I_1 r (wr IntKind.i64 (n_3 + 1)) w ∧ M_1 r (wr IntKind.i64 (n_3 + 1)) w < M_1 s_2 n_3 w1_1)
                                            (∀ (b : Nat) (w1_2 : World),
                                              Upd [] [b] w1_1 w1_2 →
                                                (World.heap w1_2)[b]? = some (Obj.cells { toList := SV.cells (SV.struct [SV.slice s_2]) } 24) →
                                                  Vc.Append 24 1 24 s { ptr := some { block := b, off := 0 }, len := 1, cap := 1 } [] w1_2 fun (r : Sl) (w : World) =>
                                                    I r (wr IntKind.i64 (n_2 + 1)) w ∧ M r (wr IntKind.i64 (n_2 + 1)) w < M s n_2 w1)))
                          (∃ (I : Int → World → Prop),
                            ∃ (M : Int → World → Nat),
                              I 0 w1 ∧
                                ∀ (n_3 : Int) (w1 : World),
                                  I n_3 w1 →
                                    Br (decide (n_3 < (↑l.2 : Int)))
                                      (∀ (J : World → Prop),
                                        (∀ (w1_1 : World), I (wr IntKind.i64 (n_3 + 1)) w1_1 ∧ M (wr IntKind.i64 (n_3 + 1)) w1_1 < M n_3 w1 → J w1_1) →
                                          Need (decide (0 ≤ n_3) && decide (n_3 < (↑l.2 : Int)) && Option.isSome l.1)
                                            (∃ (s_1 : Sl),
                                              World.cell? w1 (Sl.at l 1 (Int.toNat n_3)) = some (Sl.val s_1) ∧
                                                ∀ (w1_1 : World),
                                                  Upd [] [] w1 w1_1 →
                                                    Ret Try.prog 49 [SV.slice s_1, SV.int IntKind.u8 (wr IntKind.u8 (wr IntKind.i64 (Int.tmod n_3 200 + 40)))] w1_1
                                                      fun (r : SV) (w1_2 : World) =>
                                                      ∃ (b : Bool),
                                                        r = SV.bool b ∧
                                                          Upd [] [] w1 w1_2 ∧
                                                            Br (!b) (R (SV.bool false) w1_2)
                                                              (Need (decide (0 ≤ n_3) && decide (n_3 < (↑s.2 : Int)) && Option.isSome s.1)
                                                                (∃ (s_2 : Sl),
                                                                  World.cell? w1 (Sl.at s 1 (Int.toNat n_3)) = some (Sl.val s_2) ∧
                                                                    Ret Try.prog 49 [SV.slice s_2, SV.int IntKind.u8 (wr IntKind.u8 (wr IntKind.i64 (Int.tmod n_3 200 + 40)))] w1_2
                                                                      fun (r : SV) (w1_3 : World) =>
                                                                      ∃ (b : Bool),
                                                                        r = SV.bool b ∧
                                                                          Upd [] [] w1 w1_3 ∧
                                                                            Br (!b) (R (SV.bool false) w1_3)
                                                                              (Need (decide (0 ≤ n_3) && decide (n_3 < (↑s.2 : Int)) && Option.isSome s.1)
                                                                                (∃ (s_3 : Sl),
                                                                                  World.cell? w1 (Sl.at s 1 (Int.toNat n_3)) = some (Sl.val s_3) ∧
                                                                                    Need (decide (0 ≤ n_3) && decide (n_3 < (↑l.2 : Int)) && Option.isSome l.1)
                                                                                      (∃ (s : Sl),
                                                                                        World.cell? w1 (Sl.at l 1 (Int.toNat n_3)) = some (Sl.val s) ∧
                                                                                          Br ((↑s_3.2 : Int) != wr IntKind.i64 ((↑s.2 : Int) + n)) (R (SV.bool false) w1_3)
                                                                                            (J w1_3))))))))
                                      (R (SV.bool true) w1)))
theorem f38_of (l : Sl) (w : World) (R : SV → World → Prop) (hV : vc38 l w R) : Ret Try.prog 38 [.slice l] w R :=
  have e : vc38 l w R = fnVC X Try.f38 a38 [.slice l] w R := by kernel_rfl
  fnVC_sound X_ok (n := a38) (e ▸ hV) (by kernel_rfl) (by kernel_rfl) rfl rfl

def vc44 (b : Sl) (p1 : Int) (w : World) (R : SV → World → Prop) : Prop :=
  Need (decide (0 ≤ p1) && decide (p1 < (↑b.2 : Int)) && Option.isSome b.1)
    (∃ (n : Int),
      World.cell? w (Sl.at b 1 (Int.toNat p1)) = some (Value.int IntKind.u8 n) ∧
        Br (decide (wr IntKind.i64 (p1 + 1) < (↑b.2 : Int)))
          (Need (decide (0 ≤ wr IntKind.i64 (p1 + 1)) && decide (wr IntKind.i64 (p1 + 1) < (↑b.2 : Int)) && Option.isSome b.1)
            (∃ (n_1 : Int),
              World.cell? w (Sl.at b 1 (Int.toNat (wr IntKind.i64 (p1 + 1)))) = some (Value.int IntKind.u8 n_1) ∧
                R (SV.int IntKind.i64 (wr IntKind.i64 (gshl IntKind.i64 (wr IntKind.i64 n) 8 + wr IntKind.i64 n_1))) w))
          (R (SV.int IntKind.i64 (gshl IntKind.i64 (wr IntKind.i64 n) 8)) w))
theorem f44_of (b : Sl) (p1 : Int) (w : World) (R : SV → World → Prop) (hV : vc44 b p1 w R) : Ret Try.prog 44 [.slice b, .int .i64 p1] w R :=
  have e : vc44 b p1 w R = fnVC X Try.f44 a44 [.slice b, .int .i64 p1] w R := by kernel_rfl
  fnVC_sound X_ok (n := a44) (e ▸ hV) (by kernel_rfl) (by kernel_rfl) rfl rfl

def vc45 (b : Sl) (i : Int) (w : World) (R : SV → World → Prop) : Prop :=
  Br (decide (wr IntKind.i64 (i + 1) < (↑b.2 : Int)))
    (Need (decide (0 ≤ i) && decide (i < (↑b.2 : Int)) && Option.isSome b.1)
      (∃ (n : Int),
        World.cell? w (Sl.at b 1 (Int.toNat i)) = some (Value.int IntKind.u8 n) ∧
          Need (decide (0 ≤ wr IntKind.i64 (i + 1)) && decide (wr IntKind.i64 (i + 1) < (↑b.2 : Int)) && Option.isSome b.1)
            (∃ (n_1 : Int),
              World.cell? w (Sl.at b 1 (Int.toNat (wr IntKind.i64 (i + 1)))) = some (Value.int IntKind.u8 n_1) ∧
                ∀ (w1 : World), Upd [] [] w w1 → R (SV.int IntKind.i64 (wr IntKind.i64 (wr IntKind.i64 (wr IntKind.i64 n * 256) + wr IntKind.i64 n_1))) w1)))
    (Need (decide (0 ≤ i) && decide (i < (↑b.2 : Int)) && Option.isSome b.1)
      (∃ (n : Int), World.cell? w (Sl.at b 1 (Int.toNat i)) = some (Value.int IntKind.u8 n) ∧ R (SV.int IntKind.i64 (wr IntKind.i64 (wr IntKind.i64 n * 256))) w))
theorem f45_of (b : Sl) (i : Int) (w : World) (R : SV → World → Prop) (hV : vc45 b i w R) : Ret Try.prog 45 [.slice b, .int .i64 i] w R :=
  have e : vc45 b i w R = fnVC X Try.f45 a45 [.slice b, .int .i64 i] w R := by kernel_rfl
  fnVC_sound X_ok (n := a45) (e ▸ hV) (by kernel_rfl) (by kernel_rfl) rfl rfl

def vc46 (b : Sl) (w : World) (R : SV → World → Prop) : Prop :=
  Need
    (decide (0 ≤ wr IntKind.i64 (wr IntKind.i64 (2 * (↑b.2 : Int)) + 70)) &&
          decide (wr IntKind.i64 (wr IntKind.i64 (2 * (↑b.2 : Int)) + 70) ≤ wr IntKind.i64 (wr IntKind.i64 (2 * (↑b.2 : Int)) + 70)) &&
        decide (wr IntKind.i64 (wr IntKind.i64 (2 * (↑b.2 : Int)) + 70) ≤ 281474976710656) &&
      decide (1 * wr IntKind.i64 (wr IntKind.i64 (2 * (↑b.2 : Int)) + 70) ≤ 281474976710656))
    (∀ (b_1 : Nat) (w1 : World),
      Upd [] [b_1] w w1 →
        (World.heap w1)[b_1]? = some (Obj.cells { toList := zerosOf (Ty.int IntKind.u8) (Int.toNat (wr IntKind.i64 (wr IntKind.i64 (2 * (↑b.2 : Int)) + 70))) } 5) →
          Copy 1
            { ptr := some { block := b_1, off := 0 }, len := Int.toNat (wr IntKind.i64 (wr IntKind.i64 (2 * (↑b.2 : Int)) + 70)),
              cap := Int.toNat (wr IntKind.i64 (wr IntKind.i64 (2 * (↑b.2 : Int)) + 70)) }
            b [] w1 fun (w : World) =>
            ∃ (I : Int → World → Prop),
              ∃ (M : Int → World → Nat),
                I (↑b.2 : Int) w ∧
                  ∀ (n : Int) (w1 : World),
                    I n w1 →
                      Br (decide (n < (↑(Int.toNat (wr IntKind.i64 (wr IntKind.i64 (2 * (↑b.2 : Int)) + 70))) : Int)))
                        (Ret Try.prog 50 [SV.int IntKind.i64 (wr IntKind.i64 (n - (↑b.2 : Int)))] w1 fun (r : SV) (w1_1 : World) =>
                          ∃ (n_1 : Int),
                            r = SV.int IntKind.u8 n_1 ∧
                              Need (decide (0 ≤ n) && decide (n < (↑(Int.toNat (wr IntKind.i64 (wr IntKind.i64 (2 * (↑b.2 : Int)) + 70))) : Int)) && true)
                                (Store w1_1
                                  (Sl.at
                                    { ptr := some { block := b_1, off := 0 }, len := Int.toNat (wr IntKind.i64 (wr IntKind.i64 (2 * (↑b.2 : Int)) + 70)),
                                      cap := Int.toNat (wr IntKind.i64 (wr IntKind.i64 (2 * (↑b.2 : Int)) + 70)) }
                                    1 (Int.toNat n))
                                  (SV.cells (SV.int IntKind.u8 n_1)) [] fun (w1_2 : World) => I (wr IntKind.i64 (n + 1)) w1_2 ∧ M (wr IntKind.i64 (n + 1)) w1_2 < M n w1))
                        (Need (decide (0 ≤ (↑b.2 : Int)) && decide ((↑b.2 : Int) ≤ (↑(Int.toNat (wr IntKind.i64 (wr IntKind.i64 (2 * (↑b.2 : Int)) + 70))) : Int)))
                          (R
                            (SV.slice
                              (Sl.sub
                                { ptr := some { block := b_1, off := 0 }, len := Int.toNat (wr IntKind.i64 (wr IntKind.i64 (2 * (↑b.2 : Int)) + 70)),
                                  cap := Int.toNat (wr IntKind.i64 (wr IntKind.i64 (2 * (↑b.2 : Int)) + 70)) }
                                1 0 (Int.toNat (↑b.2 : Int)) (Int.toNat (wr IntKind.i64 (wr IntKind.i64 (2 * (↑b.2 : Int)) + 70)))))
                            w1)))
theorem f46_of (b : Sl) (w : World) (R : SV → World → Prop) (hV : vc46 b w R) : Ret Try.prog 46 [.slice b] w R :=
  have e : vc46 b w R = fnVC X Try.f46 a46 [.slice b] w R := by kernel_rfl
  fnVC_sound X_ok (n := a46) (e ▸ hV) (by kernel_rfl) (by kernel_rfl) rfl rfl

def vc47 (p0 : Sl) (b : Sl) (w : World) (R : SV → World → Prop) : Prop :=
  Br ((↑p0.2 : Int) != (↑b.2 : Int)) (R (SV.bool false) w)
    (Need (decide (0 ≤ wr IntKind.i64 (wr IntKind.i64 (2 * (↑b.2 : Int)) + 70)) && decide (wr IntKind.i64 (wr IntKind.i64 (2 * (↑b.2 : Int)) + 70) ≤ (↑p0.3 : Int)))
      (∃ (I : Int → World → Prop),
        ∃ (M : Int → World → Nat),
          I 0 w ∧
            ∀ (n : Int) (w1 : World),
              I n w1 →
                Br (decide (n < (↑(Sl.sub p0 1 0 (Int.toNat (wr IntKind.i64 (wr IntKind.i64 (2 * (↑b.2 : Int)) + 70))) p0.3).2 : Int)))
                  (∀ (J : World → Prop),
                    (∀ (w1_1 : World), I (wr IntKind.i64 (n + 1)) w1_1 ∧ M (wr IntKind.i64 (n + 1)) w1_1 < M n w1 → J w1_1) →
                      Br (decide (n < (↑b.2 : Int)))
                        (Need
                          (decide (0 ≤ n) && decide (n < (↑(Sl.sub p0 1 0 (Int.toNat (wr IntKind.i64 (wr IntKind.i64 (2 * (↑b.2 : Int)) + 70))) p0.3).2 : Int)) &&
                            Option.isSome (Sl.sub p0 1 0 (Int.toNat (wr IntKind.i64 (wr IntKind.i64 (2 * (↑b.2 : Int)) + 70))) p0.3).1)
                          (∃ (n_1 : Int),
                            World.cell? w1 (Sl.at (Sl.sub p0 1 0 (Int.toNat (wr IntKind.i64 (wr IntKind.i64 (2 * (↑b.2 : Int)) + 70))) p0.3) 1 (Int.toNat n)) =
                                some (Value.int IntKind.u8 n_1) ∧
                              Need (decide (0 ≤ n) && decide (n < (↑b.2 : Int)) && Option.isSome b.1)
                                (∃ (n_2 : Int),
                                  World.cell? w1 (Sl.at b 1 (Int.toNat n)) = some (Value.int IntKind.u8 n_2) ∧
                                    Br (n_1 != n_2) (∀ (w1_1 : World), Upd [] [] w1 w1_1 → R (SV.bool false) w1_1)
                                      (Br (decide (n ≥ (↑b.2 : Int)))
                                        (Need
                                          (decide (0 ≤ n) && decide (n < (↑(Sl.sub p0 1 0 (Int.toNat (wr IntKind.i64 (wr IntKind.i64 (2 * (↑b.2 : Int)) + 70))) p0.3).2 : Int)) &&
                                            Option.isSome (Sl.sub p0 1 0 (Int.toNat (wr IntKind.i64 (wr IntKind.i64 (2 * (↑b.2 : Int)) + 70))) p0.3).1)
                                          (∃ (n_3 : Int),
                                            World.cell? w1 (Sl.at (Sl.sub p0 1 0 (Int.toNat (wr IntKind.i64 (wr IntKind.i64 (2 * (↑b.2 : Int)) + 70))) p0.3) 1 (Int.toNat n)) =
                                                some (Value.int IntKind.u8 n_3) ∧
                                              ∀ (w1_1 : World),
                                                Upd [] [] w1 w1_1 →
                                                  Ret Try.prog 50 [SV.int IntKind.i64 (wr IntKind.i64 (n - (↑b.2 : Int)))] w1_1 fun (r : SV) (w1_2 : World) =>
                                                    ∃ (n : Int), r = SV.int IntKind.u8 n ∧ Upd [] [] w1 w1_2 ∧ Br (n_3 != n) (R (SV.bool false) w1_2) (J w1_2)))
                                        (∀ (w1_1 : World), Upd [] [] w1 w1_1 → J w1_1)))))
                        (Br (decide (n ≥ (↑b.2 : Int)))
                          (Need
                            (decide (0 ≤ n) && decide (n < (↑(Sl.sub p0 1 0 (Int.toNat (wr IntKind.i64 (wr IntKind.i64 (2 * (↑b.2 : Int)) + 70))) p0.3).2 : Int)) &&
                              Option.isSome (Sl.sub p0 1 0 (Int.toNat (wr IntKind.i64 (wr IntKind.i64 (2 * (↑b.2 : Int)) + 70))) p0.3).1)
                            (∃ (n_1 : Int),
                              World.cell? w1 (Sl.at (Sl.sub p0 1 0 (Int.toNat (wr IntKind.i64 (wr IntKind.i64 (2 * (↑b.2 : Int)) + 70))) p0.3) 1 (Int.toNat n)) =
                                  some (Value.int IntKind.u8 n_1) ∧
                                ∀ (w1_1 : World),
                                  Upd [] [] w1 w1_1 →
                                    Ret Try.prog 50 [SV.int IntKind.i64 (wr IntKind.i64 (n - (↑b.2 : Int)))] w1_1 fun (r : SV) (w1_2 : World) =>
                                      ∃ (n : Int), r = SV.int IntKind.u8 n ∧ Upd [] [] w1 w1_2 ∧ Br (n_1 != n) (R (SV.bool false) w1_2) (J w1_2)))
                          (∀ (w1_1 : World), Upd [] [] w1 w1_1 → J w1_1)))
                  (R (SV.bool true) w1)))
theorem f47_of (p0 : Sl) (b : Sl) (w : World) (R : SV → World → Prop) (hV : vc47 p0 b w R) : Ret Try.prog 47 [.slice p0, .slice b] w R :=
  have e : vc47 p0 b w R = fnVC X Try.f47 a47 [.slice p0, .slice b] w R := by kernel_rfl
  fnVC_sound X_ok (n := a47) (e ▸ hV) (by kernel_rfl) (by kernel_rfl) rfl rfl

def vc48 (i : Int) (n : Int) (w : World) (R : SV → World → Prop) : Prop :=
  Need (n != 0) (R (SV.int IntKind.i64 (Int.tmod (iand IntKind.i64 i 1099511627775) n)) w)
theorem f48_of (i : Int) (n : Int) (w : World) (R : SV → World → Prop) (hV : vc48 i n w R) : Ret Try.prog 48 [.int .i64 i, .int .i64 n] w R :=
  have e : vc48 i n w R = fnVC X Try.f48 a48 [.int .i64 i, .int .i64 n] w R := by kernel_rfl
  fnVC_sound X_ok (n := a48) (e ▸ hV) (by kernel_rfl) (by kernel_rfl) rfl rfl

def vc49 (l : Sl) (m : Int) (w : World) (R : SV → World → Prop) : Prop :=
  ∃ (I : Int → World → Prop),
    ∃ (M : Int → World → Nat),
      I 0 w ∧
        ∀ (n : Int) (w1 : World),
          I n w1 →
            Br (decide (n < (↑l.2 : Int)))
              (Need (decide (0 ≤ n) && decide (n < (↑l.2 : Int)) && Option.isSome l.1)
                (∃ (n_1 : Int),
                  World.cell? w1 (Sl.at l 1 (Int.toNat n)) = some (Value.int IntKind.u8 n_1) ∧
                    Br (n_1 != m) (R (SV.bool false) w1) (I (wr IntKind.i64 (n + 1)) w1 ∧ M (wr IntKind.i64 (n + 1)) w1 < M n w1)))
              (R (SV.bool true) w1)
theorem f49_of (l : Sl) (m : Int) (w : World) (R : SV → World → Prop) (hV : vc49 l m w R) : Ret Try.prog 49 [.slice l, .int .u8 m] w R :=
  have e : vc49 l m w R = fnVC X Try.f49 a49 [.slice l, .int .u8 m] w R := by kernel_rfl
  fnVC_sound X_ok (n := a49) (e ▸ hV) (by kernel_rfl) (by kernel_rfl) rfl rfl

def vc50 (i : Int) (w : World) (R : SV → World → Prop) : Prop :=
  R (SV.int IntKind.u8 (wr IntKind.u8 (wr IntKind.i64 (203 - wr IntKind.i64 (5 * i))))) w
theorem f50_of (i : Int) (w : World) (R : SV → World → Prop) (hV : vc50 i w R) : Ret Try.prog 50 [.int .i64 i] w R :=
  have e : vc50 i w R = fnVC X Try.f50 a50 [.int .i64 i] w R := by kernel_rfl
  fnVC_sound X_ok (n := a50) (e ▸ hV) (by kernel_rfl) (by kernel_rfl) rfl rfl

end Go.Vc.S2
end

section
open Go Go.Vc Go.Vc.S2 Go.Proofs
set_option maxRecDepth 100000
set_option linter.unusedVariables false
namespace Go.Vc.S2
def vc13 (w : World) (R : SV → World → Prop) : Prop :=
  ∀ (b : Nat) (w1 : World),
    Upd [] [b] w w1 →
      (World.heap w1)[b]? =
          some
            (Obj.cells
              {
                toList :=
                  SV.cells
                    (SV.struct
                      [SV.int IntKind.u8 0, SV.int IntKind.u8 1, SV.int IntKind.u8 242, SV.int IntKind.u8 3, SV.int IntKind.u8 244, SV.int IntKind.u8 245, SV.int IntKind.u8 246,
                        SV.int IntKind.u8 247]) }
              5) →
        ∀ (b_1 : Nat) (w1_1 : World),
          Upd [] [b_1] w1 w1_1 →
            (World.heap w1_1)[b_1]? = some (Obj.cells { toList := SV.cells (SV.struct [SV.slice { ptr := some { block := b, off := 0 }, len := 8, cap := 8 }]) } 24) →
              Ret Try.prog 16 [SV.slice { ptr := some { block := b_1, off := 0 }, len := 1, cap := 1 }] w1_1 fun (r : SV) (w1 : World) =>
                ∃ (n : Int),
                  r = SV.int IntKind.i64 n ∧
                    Br (n == 56818)
                      (∀ (b_2 : Nat) (w1_2 : World),
                        Upd [] [b_2] w1 w1_2 →
                          (World.heap w1_2)[b_2]? = some (Obj.cells { toList := SV.cells (SV.struct [SV.slice { ptr := some { block := b, off := 0 }, len := 8, cap := 8 }]) } 24) →
                            Ret Try.prog 17 [SV.slice { ptr := some { block := b_2, off := 0 }, len := 1, cap := 1 }] w1_2 fun (r : SV) (w1 : World) =>
                              ∃ (n : Int),
                                r = SV.int IntKind.i64 n ∧
                                  Br (n == 8717)
                                    (∀ (b_3 : Nat) (w1_3 : World),
                                      Upd [] [b_3] w1 w1_3 →
                                        (World.heap w1_3)[b_3]? = some (Obj.cells { toList := SV.cells (SV.struct [SV.int IntKind.u8 34, SV.int IntKind.u8 13]) } 5) →
                                          ∀ (b_4 : Nat) (w1 : World),
                                            Upd [] [b_4] w1_3 w1 →
                                              (World.heap w1)[b_4]? =
                                                  some
                                                    (Obj.cells
                                                      {
                                                        toList :=
                                                          SV.cells
                                                            (SV.struct
                                                              [SV.slice { ptr := some { block := b, off := 0 }, len := 8, cap := 8 },
                                                                SV.slice { ptr := some { block := b_3, off := 0 }, len := 2, cap := 2 }]) }
                                                      24) →
                                                Ret Try.prog 18 [SV.slice { ptr := some { block := b_4, off := 0 }, len := 2, cap := 2 }] w1 fun (r : SV) (w1 : World) =>
                                                  ∃ (b : Bool),
                                                    r = SV.bool b ∧
                                                      Br b
                                                        (Ret Try.prog 18 [SV.slice { ptr := none, len := 0, cap := 0 }] w1 fun (r : SV) (w1 : World) =>
                                                          ∃ (b : Bool), r = SV.bool b ∧ R (SV.bool !b) w1)
                                                        (R (SV.bool false) w1))
                                    (R (SV.bool false) w1))
                      (R (SV.bool false) w1)
theorem f13_of (w : World) (R : SV → World → Prop) (hV : vc13 w R) : Ret Try.prog 13 [] w R :=
  have e : vc13 w R = fnVC X Try.f13 a13 [] w R := by kernel_rfl
  fnVC_sound X_ok (n := a13) (e ▸ hV) (by kernel_rfl) (by kernel_rfl) rfl rfl

def vc14 (parts : Sl) (w : World) (R : SV → World → Prop) : Prop :=
  ∀ (J : Sl → Sl → World → Prop),
    (∀ (s s_1 : Sl) (w1 : World),
        (∀ (b : Nat) (w1_1 : World),
            Upd [] [b] w1 w1_1 →
              (World.heap w1_1)[b]? = some (Obj.cells { toList := SV.cells (SV.struct [SV.int IntKind.u8 91, SV.int IntKind.u8 92, SV.int IntKind.u8 93]) } 5) →
                Vc.Append 5 1 1 s { ptr := some { block := b, off := 0 }, len := 3, cap := 3 } [] w1_1 fun (r : Sl) (w : World) =>
                  ∃ (I : Sl → Int → Int → World → Prop),
                    ∃ (M : Sl → Int → Int → World → Nat),
                      I { ptr := none, len := 0, cap := 0 } 0 0 w ∧
                        ∀ (s : Sl) (n n_1 : Int) (w1 : World),
                          I s n n_1 w1 →
                            Br (decide (n_1 < (↑s_1.2 : Int)))
                              (Need (decide (0 ≤ n_1) && decide (n_1 < (↑s_1.2 : Int)) && Option.isSome s_1.1)
                                (∃ (n_2 : Int),
                                  World.cell? w1 (Sl.at s_1 1 (Int.toNat n_1)) = some (Value.int IntKind.i64 n_2) ∧
                                    Need (decide (0 ≤ n_2) && decide (n_2 ≤ (↑r.3 : Int)) && (decide (0 ≤ n) && decide (n ≤ (↑(Int.toNat n_2) : Int))))
                                      (∀ (b : Nat) (w1_2 : World),
                                        Upd [] [b] w1 w1_2 →
                                          (World.heap w1_2)[b]? = some (Obj.cells { toList := SV.cells (SV.struct [SV.slice (Sl.sub r 1 (Int.toNat n) (Int.toNat n_2) r.3)]) } 24) →
                                            Vc.Append 24 1 24 s { ptr := some { block := b, off := 0 }, len := 1, cap := 1 } [] w1_2 fun (r : Sl) (w : World) =>
                                              Need (decide (0 ≤ n_1) && decide (n_1 < (↑s_1.2 : Int)) && Option.isSome s_1.1)
                                                (∃ (n_3 : Int),
                                                  World.cell? w (Sl.at s_1 1 (Int.toNat n_1)) = some (Value.int IntKind.i64 n_3) ∧
                                                    I r (wr IntKind.i64 (n_3 + 1)) (wr IntKind.i64 (n_1 + 1)) w ∧
                                                      M r (wr IntKind.i64 (n_3 + 1)) (wr IntKind.i64 (n_1 + 1)) w < M s n n_1 w1))))
                              (Vc.Append 5 1 1 { ptr := none, len := 0, cap := 0 } r [] w1 fun (r_1 : Sl) (w : World) => R (SV.tuple [SV.slice s, SV.slice r, SV.slice r_1]) w)) →
          J s s_1 w1) →
      ∃ (I : Sl → Sl → Int → World → Prop),
        ∃ (M : Sl → Sl → Int → World → Nat),
          I { ptr := none, len := 0, cap := 0 } { ptr := none, len := 0, cap := 0 } 0 w ∧
            ∀ (s s_1 : Sl) (n : Int) (w1 : World),
              I s s_1 n w1 →
                ∀ (J_1 : World → Prop),
                  (∀ (w1_1 : World),
                      Need (decide (0 ≤ n) && decide (n < (↑parts.2 : Int)) && Option.isSome parts.1)
                          (∃ (s_2 : Sl),
                            World.cell? w1_1 (Sl.at parts 1 (Int.toNat n)) = some (Sl.val s_2) ∧
                              Br (decide ((↑s_2.2 : Int) > wr IntKind.i64 (131072 - (↑s.2 : Int)))) (J s s_1 w1_1)
                                (Vc.Append 5 1 1 s s_2 [] w1_1 fun (r : Sl) (w : World) =>
                                  ∀ (b : Nat) (w1_2 : World),
                                    Upd [] [b] w w1_2 →
                                      (World.heap w1_2)[b]? = some (Obj.cells { toList := SV.cells (SV.struct [SV.int IntKind.i64 (↑r.2 : Int)]) } 3) →
                                        Vc.Append 3 1 8 s_1 { ptr := some { block := b, off := 0 }, len := 1, cap := 1 } [] w1_2 fun (r_1 : Sl) (w : World) =>
                                          ∀ (b : Nat) (w1_3 : World),
                                            Upd [] [b] w w1_3 →
                                              (World.heap w1_3)[b]? =
                                                  some (Obj.cells { toList := SV.cells (SV.struct [SV.int IntKind.u8 (wr IntKind.u8 (wr IntKind.i64 (201 + Int.tmod n 50)))]) } 5) →
                                                Vc.Append 5 1 1 r { ptr := some { block := b, off := 0 }, len := 1, cap := 1 } [] w1_3 fun (r : Sl) (w : World) =>
                                                  I r r_1 (wr IntKind.i64 (n + 1)) w ∧ M r r_1 (wr IntKind.i64 (n + 1)) w < M s s_1 n w1)) →
                        J_1 w1_1) →
                    Br (decide (n < (↑parts.2 : Int))) (Br (decide (n < 300)) (J_1 w1) (J s s_1 w1)) (J s s_1 w1)
theorem f14_of (parts : Sl) (w : World) (R : SV → World → Prop) (hV : vc14 parts w R) : Ret Try.prog 14 [.slice parts] w R :=
  have e : vc14 parts w R = fnVC X Try.f14 a14 [.slice parts] w R := by kernel_rfl
  fnVC_sound X_ok (n := a14) (e ▸ hV) (by kernel_rfl) (by kernel_rfl) rfl rfl

def vc15 (parts : Sl) (w : World) (R : SV → World → Prop) : Prop :=
  ∃ (I : Sl → Int → World → Prop),
    ∃ (M : Sl → Int → World → Nat),
      I { ptr := none, len := 0, cap := 0 } 0 w ∧
        ∀ (s : Sl) (n : Int) (w1 : World),
          I s n w1 →
            Br (decide (n < (↑parts.2 : Int)))
              (Need (decide (0 ≤ n) && decide (n < (↑parts.2 : Int)) && Option.isSome parts.1)
                (∃ (s_1 : Sl),
                  World.cell? w1 (Sl.at parts 1 (Int.toNat n)) = some (Sl.val s_1) ∧
                    Vc.Append 5 1 1 s s_1 [] w1 fun (r : Sl) (w : World) => I r (wr IntKind.i64 (n + 1)) w ∧ M r (wr IntKind.i64 (n + 1)) w < M s n w1))
              (R (SV.slice s) w1)
theorem f15_of (parts : Sl) (w : World) (R : SV → World → Prop) (hV : vc15 parts w R) : Ret Try.prog 15 [.slice parts] w R :=
  have e : vc15 parts w R = fnVC X Try.f15 a15 [.slice parts] w R := by kernel_rfl
  fnVC_sound X_ok (n := a15) (e ▸ hV) (by kernel_rfl) (by kernel_rfl) rfl rfl

def vc16 (parts : Sl) (w : World) (R : SV → World → Prop) : Prop :=
  ∃ (I : Int → Bool → Int → World → Prop),
    ∃ (M : Int → Bool → Int → World → Nat),
      I 0 true 0 w ∧
        ∀ (n : Int) (b : Bool) (n_1 : Int) (w1 : World),
          I n b n_1 w1 →
            Br (decide (n_1 < (↑parts.2 : Int)))
              (Need (decide (0 ≤ n_1) && decide (n_1 < (↑parts.2 : Int)) && Option.isSome parts.1)
                (∃ (s : Sl),
                  World.cell? w1 (Sl.at parts 1 (Int.toNat n_1)) = some (Sl.val s) ∧
                    ∃ (I_1 : Int → Bool → Int → World → Prop),
                      ∃ (M_1 : Int → Bool → Int → World → Nat),
                        I_1 n b 0 w1 ∧
                          ∀ (n_2 : Int) (b_1 : Bool) (n_3 : Int) (w1_1 : World),
                            I_1 n_2 b_1 n_3 w1_1 →
                              Br (decide (n_3 < (↑s.2 : Int)))
                                (Need (decide (0 ≤ n_3) && decide (n_3 < (↑s.2 : Int)) && Option.isSome s.1)
                                  (∃ (n : Int),
                                    World.cell? w1_1 (Sl.at s 1 (Int.toNat n_3)) = some (Value.int IntKind.u8 n) ∧
                                      ∀ (J : Int → World → Prop),
                                        (∀ (n : Int) (w1 : World),
                                            I_1 n (!b_1) (wr IntKind.i64 (n_3 + 1)) w1 ∧ M_1 n (!b_1) (wr IntKind.i64 (n_3 + 1)) w1 < M_1 n_2 b_1 n_3 w1_1 → J n w1) →
                                          Br b_1 (J (wr IntKind.i64 (n_2 + gshl IntKind.i64 (wr IntKind.i64 n) 8)) w1_1) (J (wr IntKind.i64 (n_2 + wr IntKind.i64 n)) w1_1)))
                                (Ret Try.prog 39 [SV.int IntKind.i64 n_2] w1_1 fun (r : SV) (w1_2 : World) =>
                                  ∃ (n_4 : Int), r = SV.int IntKind.i64 n_4 ∧ I n_4 b_1 (wr IntKind.i64 (n_1 + 1)) w1_2 ∧ M n_4 b_1 (wr IntKind.i64 (n_1 + 1)) w1_2 < M n b n_1 w1)))
              (R (SV.int IntKind.i64 n) w1)
theorem f16_of (parts : Sl) (w : World) (R : SV → World → Prop) (hV : vc16 parts w R) : Ret Try.prog 16 [.slice parts] w R :=
  have e : vc16 parts w R = fnVC X Try.f16 a16 [.slice parts] w R := by kernel_rfl
  fnVC_sound X_ok (n := a16) (e ▸ hV) (by kernel_rfl) (by kernel_rfl) rfl rfl

def vc17 (parts : Sl) (w : World) (R : SV → World → Prop) : Prop :=
  Ret Try.prog 16 [SV.slice parts] w fun (r : SV) (w1 : World) => ∃ (n : Int), r = SV.int IntKind.i64 n ∧ R (SV.int IntKind.i64 (wr IntKind.i64 (65535 - n))) w1
theorem f17_of (parts : Sl) (w : World) (R : SV → World → Prop) (hV : vc17 parts w R) : Ret Try.prog 17 [.slice parts] w R :=
  have e : vc17 parts w R = fnVC X Try.f17 a17 [.slice parts] w R := by kernel_rfl
  fnVC_sound X_ok (n := a17) (e ▸ hV) (by kernel_rfl) (by kernel_rfl) rfl rfl

def vc18 (parts : Sl) (w : World) (R : SV → World → Prop) : Prop :=
  Ret Try.prog 16 [SV.slice parts] w fun (r : SV) (w1 : World) => ∃ (n : Int), r = SV.int IntKind.i64 n ∧ R (SV.bool (n == 65535)) w1
theorem f18_of (parts : Sl) (w : World) (R : SV → World → Prop) (hV : vc18 parts w R) : Ret Try.prog 18 [.slice parts] w R :=
  have e : vc18 parts w R = fnVC X Try.f18 a18 [.slice parts] w R := by kernel_rfl
  fnVC_sound X_ok (n := a18) (e ▸ hV) (by kernel_rfl) (by kernel_rfl) rfl rfl

def vc19 (parts : Sl) (w : World) (R : SV → World → Prop) : Prop :=
  ∃ (I : Int → Int → Int → World → Prop),
    ∃ (M : Int → Int → Int → World → Nat),
      I 0 0 0 w ∧
        ∀ (n n_1 n_2 : Int) (w1 : World),
          I n n_1 n_2 w1 →
            Br (decide (n_2 < (↑parts.2 : Int)))
              (∃ (I_1 : Int → Int → Int → World → Prop),
                ∃ (M_1 : Int → Int → Int → World → Nat),
                  I_1 n n_1 0 w1 ∧
                    ∀ (n_3 n_4 n_5 : Int) (w1_1 : World),
                      I_1 n_3 n_4 n_5 w1_1 →
                        Need (decide (0 ≤ n_2) && decide (n_2 < (↑parts.2 : Int)) && Option.isSome parts.1)
                          (∃ (s : Sl),
                            World.cell? w1_1 (Sl.at parts 1 (Int.toNat n_2)) = some (Sl.val s) ∧
                              Br (decide (n_5 < (↑s.2 : Int)))
                                (∀ (J : Int → Int → World → Prop),
                                  (∀ (n n_6 : Int) (w1 : World),
                                      I_1 n n_6 (wr IntKind.i64 (n_5 + 1)) w1 ∧ M_1 n n_6 (wr IntKind.i64 (n_5 + 1)) w1 < M_1 n_3 n_4 n_5 w1_1 → J n n_6 w1) →
                                    Need (decide (0 ≤ n_2) && decide (n_2 < (↑parts.2 : Int)) && Option.isSome parts.1)
                                      (∃ (s : Sl),
                                        World.cell? w1_1 (Sl.at parts 1 (Int.toNat n_2)) = some (Sl.val s) ∧
                                          Need (decide (0 ≤ n_5) && decide (n_5 < (↑s.2 : Int)) && Option.isSome s.1)
                                            (∃ (n : Int),
                                              World.cell? w1_1 (Sl.at s 1 (Int.toNat n_5)) = some (Value.int IntKind.u8 n) ∧
                                                ∀ (J_1 : Int → World → Prop),
                                                  (∀ (n : Int) (w1 : World), J (wr IntKind.i64 (n_3 + 1)) (wr IntKind.i64 (n_4 + n)) w1 → J_1 n w1) →
                                                    Br (Int.tmod n_3 2 == 0) (J_1 (wr IntKind.i64 (wr IntKind.i64 n * 256)) w1_1) (J_1 (wr IntKind.i64 n) w1_1))))
                                (I n_3 n_4 (wr IntKind.i64 (n_2 + 1)) w1_1 ∧ M n_3 n_4 (wr IntKind.i64 (n_2 + 1)) w1_1 < M n n_1 n_2 w1)))
              (Ret Try.prog 40 [SV.int IntKind.i64 n_1] w1 fun (r : SV) (w1 : World) => ∃ (n : Int), r = SV.int IntKind.i64 n ∧ R (SV.int IntKind.i64 n) w1)
theorem f19_of (parts : Sl) (w : World) (R : SV → World → Prop) (hV : vc19 parts w R) : Ret Try.prog 19 [.slice parts] w R :=
  have e : vc19 parts w R = fnVC X Try.f19 a19 [.slice parts] w R := by kernel_rfl
  fnVC_sound X_ok (n := a19) (e ▸ hV) (by kernel_rfl) (by kernel_rfl) rfl rfl

def vc20 (parts : Sl) (w : World) (R : SV → World → Prop) : Prop :=
  Ret Try.prog 19 [SV.slice parts] w fun (r : SV) (w1 : World) => ∃ (n : Int), r = SV.int IntKind.i64 n ∧ R (SV.int IntKind.i64 (wr IntKind.i64 (65535 - n))) w1
theorem f20_of (parts : Sl) (w : World) (R : SV → World → Prop) (hV : vc20 parts w R) : Ret Try.prog 20 [.slice parts] w R :=
  have e : vc20 parts w R = fnVC X Try.f20 a20 [.slice parts] w R := by kernel_rfl
  fnVC_sound X_ok (n := a20) (e ▸ hV) (by kernel_rfl) (by kernel_rfl) rfl rfl

def vc21 (parts : Sl) (w : World) (R : SV → World → Prop) : Prop :=
  Ret Try.prog 19 [SV.slice parts] w fun (r : SV) (w1 : World) => ∃ (n : Int), r = SV.int IntKind.i64 n ∧ R (SV.bool (n == 65535)) w1
theorem f21_of (parts : Sl) (w : World) (R : SV → World → Prop) (hV : vc21 parts w R) : Ret Try.prog 21 [.slice parts] w R :=
  have e : vc21 parts w R = fnVC X Try.f21 a21 [.slice parts] w R := by kernel_rfl
  fnVC_sound X_ok (n := a21) (e ▸ hV) (by kernel_rfl) (by kernel_rfl) rfl rfl

def vc22 (a : Sl) (b : Sl) (w : World) (R : SV → World → Prop) : Prop :=
  Br ((↑a.2 : Int) != (↑b.2 : Int)) (R (SV.bool false) w)
    (∃ (I : Int → World → Prop),
      ∃ (M : Int → World → Nat),
        I 0 w ∧
          ∀ (n : Int) (w1 : World),
            I n w1 →
              Br (decide (n < (↑a.2 : Int)))
                (Need (decide (0 ≤ n) && decide (n < (↑a.2 : Int)) && Option.isSome a.1)
                  (∃ (n_1 : Int),
                    World.cell? w1 (Sl.at a 1 (Int.toNat n)) = some (Value.int IntKind.u8 n_1) ∧
                      Need (decide (0 ≤ n) && decide (n < (↑b.2 : Int)) && Option.isSome b.1)
                        (∃ (n_2 : Int),
                          World.cell? w1 (Sl.at b 1 (Int.toNat n)) = some (Value.int IntKind.u8 n_2) ∧
                            Br (n_1 != n_2) (∀ (w1_1 : World), Upd [] [] w1 w1_1 → R (SV.bool false) w1_1)
                              (∀ (w1_1 : World), Upd [] [] w1 w1_1 → I (wr IntKind.i64 (n + 1)) w1_1 ∧ M (wr IntKind.i64 (n + 1)) w1_1 < M n w1))))
                (R (SV.bool true) w1))
theorem f22_of (a : Sl) (b : Sl) (w : World) (R : SV → World → Prop) (hV : vc22 a b w R) : Ret Try.prog 22 [.slice a, .slice b] w R :=
  have e : vc22 a b w R = fnVC X Try.f22 a22 [.slice a, .slice b] w R := by kernel_rfl
  fnVC_sound X_ok (n := a22) (e ▸ hV) (by kernel_rfl) (by kernel_rfl) rfl rfl

def vc23 (b : Sl) (w : World) (R : SV → World → Prop) : Prop :=
  ∀ (J : Sl → World → Prop),
    (∀ (s : Sl) (w1 : World),
        (Vc.Append 5 1 1 { ptr := none, len := 0, cap := 0 } s [] w1 fun (r : Sl) (w : World) =>
            Br (Int.tmod (↑r.2 : Int) 2 == 1)
              (∀ (b : Nat) (w1 : World),
                Upd [] [b] w w1 →
                  (World.heap w1)[b]? = some (Obj.cells { toList := SV.cells (SV.struct [SV.int IntKind.u8 0]) } 5) →
                    Vc.Append 5 1 1 r { ptr := some { block := b, off := 0 }, len := 1, cap := 1 } [] w1 fun (r : Sl) (w : World) => R (SV.slice r) w)
              (R (SV.slice r) w)) →
          J s w1) →
      Br (decide ((↑b.2 : Int) > 131072)) (Need (decide (131072 ≤ (↑b.3 : Int))) (J (Sl.sub b 1 0 131072 b.3) w)) (J b w)
theorem f23_of (b : Sl) (w : World) (R : SV → World → Prop) (hV : vc23 b w R) : Ret Try.prog 23 [.slice b] w R :=
  have e : vc23 b w R = fnVC X Try.f23 a23 [.slice b] w R := by kernel_rfl
  fnVC_sound X_ok (n := a23) (e ▸ hV) (by kernel_rfl) (by kernel_rfl) rfl rfl

def vc24 (b : Sl) (p1 : Int) (w : World) (R : SV → World → Prop) : Prop :=
  ∀ (J : Int → World → Prop),
    (∀ (n : Int) (w1 : World),
        Need (wr IntKind.i64 (Int.tdiv (↑b.2 : Int) 2) != 0) (R (SV.int IntKind.i64 (wr IntKind.i64 (Int.tmod n (wr IntKind.i64 (Int.tdiv (↑b.2 : Int) 2)) * 2))) w1) → J n w1) →
      Br (decide (p1 < 0)) (J (wr IntKind.i64 (0 - wr IntKind.i64 (p1 + 1))) w) (J p1 w)
theorem f24_of (b : Sl) (p1 : Int) (w : World) (R : SV → World → Prop) (hV : vc24 b p1 w R) : Ret Try.prog 24 [.slice b, .int .i64 p1] w R :=
  have e : vc24 b p1 w R = fnVC X Try.f24 a24 [.slice b, .int .i64 p1] w R := by kernel_rfl
  fnVC_sound X_ok (n := a24) (e ▸ hV) (by kernel_rfl) (by kernel_rfl) rfl rfl

def vc25 (b : Sl) (p1 : Int) (n : Int) (w : World) (R : SV → World → Prop) : Prop :=
  Need (decide (0 ≤ p1) && decide (p1 < (↑b.2 : Int)) && Option.isSome b.1)
    (Store w (Sl.at b 1 (Int.toNat p1)) (SV.cells (SV.int IntKind.u8 (wr IntKind.u8 (gshr IntKind.i64 n 8)))) [] fun (w1 : World) =>
      Need (decide (0 ≤ wr IntKind.i64 (p1 + 1)) && decide (wr IntKind.i64 (p1 + 1) < (↑b.2 : Int)) && Option.isSome b.1)
        (Store w1 (Sl.at b 1 (Int.toNat (wr IntKind.i64 (p1 + 1)))) (SV.cells (SV.int IntKind.u8 (wr IntKind.u8 n))) [] fun (w1 : World) => R (SV.tuple []) w1))
theorem f25_of (b : Sl) (p1 : Int) (n : Int) (w : World) (R : SV → World → Prop) (hV : vc25 b p1 n w R) : Ret Try.prog 25 [.slice b, .int .i64 p1, .int .i64 n] w R :=
  have e : vc25 b p1 n w R = fnVC X Try.f25 a25 [.slice b, .int .i64 p1, .int .i64 n] w R := by kernel_rfl
  fnVC_sound X_ok (n := a25) (e ▸ hV) (by kernel_rfl) (by kernel_rfl) rfl rfl

def vc26 (src_0 : Int) (src_1 : Nat → Int) (dst_0 : Int) (dst_1 : Nat → Int) (proto : Int) (n : Int) (w : World) (R : SV → World → Prop) : Prop :=
  ∀ (b b_1 : Nat) (w1 : World),
    Upd [] [b_1, b] w w1 →
      Ret Try.prog 41 [SV.struct [SV.int IntKind.i64 src_0, SV.arr IntKind.u8 16 src_1]] w1 fun (r : SV) (w1_1 : World) =>
        ∃ (n_1 : Int),
          r = SV.int IntKind.i64 n_1 ∧
            Keeps [b, b_1] w1 w1_1 ∧
              ∀ (J : World → Prop),
                (∀ (w1 : World),
                    Br (n_1 == 4)
                        ((World.heap w1)[b]? = some (Obj.cells { toList := SV.cells (SV.struct [SV.int IntKind.i64 src_0, SV.arr IntKind.u8 16 src_1]) } 41) →
                          Off b [b_1] →
                            Vc.Append 5 1 1 { ptr := none, len := 0, cap := 0 } (Sl.sub { ptr := some { block := b, off := 1 }, len := 16, cap := 16 } 1 0 4 16) [b_1] w1
                              fun (r : Sl) (w : World) =>
                              (World.heap w)[b_1]? = some (Obj.cells { toList := SV.cells (SV.struct [SV.int IntKind.i64 dst_0, SV.arr IntKind.u8 16 dst_1]) } 41) →
                                Vc.Append 5 1 1 r (Sl.sub { ptr := some { block := b_1, off := 1 }, len := 16, cap := 16 } 1 0 4 16) [] w fun (r : Sl) (w : World) =>
                                  ∀ (b : Nat) (w1 : World),
                                    Upd [] [b] w w1 →
                                      (World.heap w1)[b]? =
                                          some
                                            (Obj.cells
                                              {
                                                toList :=
                                                  SV.cells
                                                    (SV.struct
                                                      [SV.int IntKind.u8 0, SV.int IntKind.u8 (wr IntKind.u8 proto), SV.int IntKind.u8 (wr IntKind.u8 (gshr IntKind.i64 n 8)),
                                                        SV.int IntKind.u8 (wr IntKind.u8 n)]) }
                                              5) →
                                        Vc.Append 5 1 1 r { ptr := some { block := b, off := 0 }, len := 4, cap := 4 } [] w1 fun (r : Sl) (w : World) =>
                                          R (SV.tuple [SV.slice r, SV.int IntKind.i64 0]) w)
                        ((World.heap w1)[b]? = some (Obj.cells { toList := SV.cells (SV.struct [SV.int IntKind.i64 src_0, SV.arr IntKind.u8 16 src_1]) } 41) →
                          Off b [b_1] →
                            Vc.Append 5 1 1 { ptr := none, len := 0, cap := 0 } (Sl.sub { ptr := some { block := b, off := 1 }, len := 16, cap := 16 } 1 0 16 16) [b_1] w1
                              fun (r : Sl) (w : World) =>
                              (World.heap w)[b_1]? = some (Obj.cells { toList := SV.cells (SV.struct [SV.int IntKind.i64 dst_0, SV.arr IntKind.u8 16 dst_1]) } 41) →
                                Vc.Append 5 1 1 r (Sl.sub { ptr := some { block := b_1, off := 1 }, len := 16, cap := 16 } 1 0 16 16) [] w fun (r : Sl) (w : World) =>
                                  ∀ (b : Nat) (w1 : World),
                                    Upd [] [b] w w1 →
                                      (World.heap w1)[b]? =
                                          some
                                            (Obj.cells
                                              {
                                                toList :=
                                                  SV.cells
                                                    (SV.struct
                                                      [SV.int IntKind.u8 0, SV.int IntKind.u8 0, SV.int IntKind.u8 (wr IntKind.u8 (gshr IntKind.i64 n 8)),
                                                        SV.int IntKind.u8 (wr IntKind.u8 n), SV.int IntKind.u8 0, SV.int IntKind.u8 0, SV.int IntKind.u8 0,
                                                        SV.int IntKind.u8 (wr IntKind.u8 proto)]) }
                                              5) →
                                        Vc.Append 5 1 1 r { ptr := some { block := b, off := 0 }, len := 8, cap := 8 } [] w1 fun (r : Sl) (w : World) =>
                                          R (SV.tuple [SV.slice r, SV.int IntKind.i64 0]) w) →
                      J w1) →
                  Br (n_1 == 0) (R (SV.tuple [SV.slice { ptr := none, len := 0, cap := 0 }, SV.int IntKind.i64 20]) w1_1)
                    (Ret Try.prog 41 [SV.struct [SV.int IntKind.i64 dst_0, SV.arr IntKind.u8 16 dst_1]] w1_1 fun (r : SV) (w1 : World) =>
                      ∃ (n_2 : Int),
                        r = SV.int IntKind.i64 n_2 ∧
                          Keeps [b, b_1] w1_1 w1 ∧
                            Br (n_2 != n_1) (R (SV.tuple [SV.slice { ptr := none, len := 0, cap := 0 }, SV.int IntKind.i64 20]) w1)
                              (Br (decide (proto < 0)) (R (SV.tuple [SV.slice { ptr := none, len := 0, cap := 0 }, SV.int IntKind.i64 1]) w1)
                                (Br (decide (proto > 255)) (R (SV.tuple [SV.slice { ptr := none, len := 0, cap := 0 }, SV.int IntKind.i64 1]) w1)
                                  (Br (decide (n < 0)) (R (SV.tuple [SV.slice { ptr := none, len := 0, cap := 0 }, SV.int IntKind.i64 1]) w1)
                                    (Br (decide (n > 65535)) (R (SV.tuple [SV.slice { ptr := none, len := 0, cap := 0 }, SV.int IntKind.i64 1]) w1)
                                      (some (SV.box b 41 (SV.struct [SV.int IntKind.i64 src_0, SV.arr IntKind.u8 16 src_1])) =
                                          some (SV.box b 41 (SV.struct [SV.int IntKind.i64 src_0, SV.arr IntKind.u8 16 src_1])) ∧
                                        some (SV.box b_1 41 (SV.struct [SV.int IntKind.i64 dst_0, SV.arr IntKind.u8 16 dst_1])) =
                                            some (SV.box b_1 41 (SV.struct [SV.int IntKind.i64 dst_0, SV.arr IntKind.u8 16 dst_1])) ∧
                                          J w1))))))
theorem f26_of (src_0 : Int) (src_1 : Nat → Int) (dst_0 : Int) (dst_1 : Nat → Int) (proto : Int) (n : Int) (w : World) (R : SV → World → Prop) (hV : vc26 src_0 src_1 dst_0 dst_1 proto n w R) : Ret Try.prog 26 [.struct [.int .i64 src_0, .arr .u8 16 src_1], .struct [.int .i64 dst_0, .arr .u8 16 dst_1], .int .i64 proto, .int .i64 n] w R :=
  have e : vc26 src_0 src_1 dst_0 dst_1 proto n w R = fnVC X Try.f26 a26 [.struct [.int .i64 src_0, .arr .u8 16 src_1], .struct [.int .i64 dst_0, .arr .u8 16 dst_1], .int .i64 proto, .int .i64 n] w R := by kernel_rfl
  fnVC_sound X_ok (n := a26) (e ▸ hV) (by kernel_rfl) (by kernel_rfl) rfl rfl

def vc28 (check : Int) (old : Int) (now : Int) (w : World) (R : SV → World → Prop) : Prop :=
  ∃ (I : Int → World → Prop),
    ∃ (M : Int → World → Nat),
      I 0 w ∧
        ∀ (n : Int) (w1 : World),
          I n w1 →
            Br (decide (n < 3))
              (Need (decide (0 ≤ n) && decide (n < 3))
                (Br (decide (fset (fset (fset (fun (x : Nat) => 0) 0 check) 1 old) 2 now (Int.toNat n) < 0)) (R (SV.tuple [SV.int IntKind.i64 0, SV.int IntKind.i64 21]) w1)
                  (Br (decide (fset (fset (fset (fun (x : Nat) => 0) 0 check) 1 old) 2 now (Int.toNat n) > 65535)) (R (SV.tuple [SV.int IntKind.i64 0, SV.int IntKind.i64 21]) w1)
                    (I (wr IntKind.i64 (n + 1)) w1 ∧ M (wr IntKind.i64 (n + 1)) w1 < M n w1))))
              (Ret Try.prog 39 [SV.int IntKind.i64 (wr IntKind.i64 (wr IntKind.i64 (wr IntKind.i64 (wr IntKind.i64 (65535 - check) + 65535) - old) + now))] w1
                fun (r : SV) (w1 : World) => ∃ (n : Int), r = SV.int IntKind.i64 n ∧ R (SV.tuple [SV.int IntKind.i64 (wr IntKind.i64 (65535 - n)), SV.int IntKind.i64 0]) w1)
theorem f28_of (check : Int) (old : Int) (now : Int) (w : World) (R : SV → World → Prop) (hV : vc28 check old now w R) : Ret Try.prog 28 [.int .i64 check, .int .i64 old, .int .i64 now] w R :=
  have e : vc28 check old now w R = fnVC X Try.f28 a28 [.int .i64 check, .int .i64 old, .int .i64 now] w R := by kernel_rfl
  fnVC_sound X_ok (n := a28) (e ▸ hV) (by kernel_rfl) (by kernel_rfl) rfl rfl

def vc29 (check : Int) (old : Int) (now : Int) (w : World) (R : SV → World → Prop) : Prop :=
  ∀ (J : World → Prop),
    (∀ (w1 : World),
        (Ret Try.prog 40 [SV.int IntKind.i64 (wr IntKind.i64 (wr IntKind.i64 (wr IntKind.i64 (wr IntKind.i64 (65535 - check) + 65535) - old) + now))] w1 fun (r : SV) (w1 : World) =>
            ∃ (n : Int), r = SV.int IntKind.i64 n ∧ R (SV.tuple [SV.int IntKind.i64 (wr IntKind.i64 (65535 - n)), SV.int IntKind.i64 0]) w1) →
          J w1) →
      Ret Try.prog 43 [SV.int IntKind.i64 check] w fun (r : SV) (w1 : World) =>
        ∃ (b : Bool),
          r = SV.bool b ∧
            Br (!b) (R (SV.tuple [SV.int IntKind.i64 0, SV.int IntKind.i64 21]) w1)
              (Ret Try.prog 43 [SV.int IntKind.i64 old] w1 fun (r : SV) (w1 : World) =>
                ∃ (b : Bool),
                  r = SV.bool b ∧
                    Br (!b) (R (SV.tuple [SV.int IntKind.i64 0, SV.int IntKind.i64 21]) w1)
                      (Ret Try.prog 43 [SV.int IntKind.i64 now] w1 fun (r : SV) (w1 : World) =>
                        ∃ (b : Bool), r = SV.bool b ∧ Br (!b) (R (SV.tuple [SV.int IntKind.i64 0, SV.int IntKind.i64 21]) w1) (J w1)))
theorem f29_of (check : Int) (old : Int) (now : Int) (w : World) (R : SV → World → Prop) (hV : vc29 check old now w R) : Ret Try.prog 29 [.int .i64 check, .int .i64 old, .int .i64 now] w R :=
  have e : vc29 check old now w R = fnVC X Try.f29 a29 [.int .i64 check, .int .i64 old, .int .i64 now] w R := by kernel_rfl
  fnVC_sound X_ok (n := a29) (e ▸ hV) (by kernel_rfl) (by kernel_rfl) rfl rfl

def vc30 (check : Int) (old : Sl) (now : Sl) (w : World) (R : SV → World → Prop) : Prop :=
  ∀ (J : World → Prop),
    (∀ (w1 : World),
        (∃ (I : Int → Int → World → Prop),
            ∃ (M : Int → Int → World → Nat),
              I check 0 w1 ∧
                ∀ (n n_1 : Int) (w1 : World),
                  I n n_1 w1 →
                    Br (decide (n_1 < (↑old.2 : Int)))
                      (Ret Try.prog 44 [SV.slice old, SV.int IntKind.i64 n_1] w1 fun (r : SV) (w1_1 : World) =>
                        ∃ (n_2 : Int),
                          r = SV.int IntKind.i64 n_2 ∧
                            Ret Try.prog 44 [SV.slice now, SV.int IntKind.i64 n_1] w1_1 fun (r : SV) (w1_2 : World) =>
                              ∃ (n_3 : Int),
                                r = SV.int IntKind.i64 n_3 ∧
                                  Ret Try.prog 28 [SV.int IntKind.i64 n, SV.int IntKind.i64 n_2, SV.int IntKind.i64 n_3] w1_2 fun (r : SV) (w1_3 : World) =>
                                    ∃ (n_4 : Int),
                                      ∃ (n_5 : Int),
                                        r = SV.tuple [SV.int IntKind.i64 n_4, SV.int IntKind.i64 n_5] ∧
                                          I n_4 (wr IntKind.i64 (n_1 + 2)) w1_3 ∧ M n_4 (wr IntKind.i64 (n_1 + 2)) w1_3 < M n n_1 w1)
                      (R (SV.tuple [SV.int IntKind.i64 n, SV.int IntKind.i64 0]) w1)) →
          J w1) →
      Br (decide (check < 0)) (R (SV.tuple [SV.int IntKind.i64 0, SV.int IntKind.i64 21]) w)
        (Br (decide (check > 65535)) (R (SV.tuple [SV.int IntKind.i64 0, SV.int IntKind.i64 21]) w)
          (Br ((↑old.2 : Int) != (↑now.2 : Int)) (R (SV.tuple [SV.int IntKind.i64 0, SV.int IntKind.i64 22]) w) (J w)))
theorem f30_of (check : Int) (old : Sl) (now : Sl) (w : World) (R : SV → World → Prop) (hV : vc30 check old now w R) : Ret Try.prog 30 [.int .i64 check, .slice old, .slice now] w R :=
  have e : vc30 check old now w R = fnVC X Try.f30 a30 [.int .i64 check, .slice old, .slice now] w R := by kernel_rfl
  fnVC_sound X_ok (n := a30) (e ▸ hV) (by kernel_rfl) (by kernel_rfl) rfl rfl

def vc31 (check : Int) (old : Sl) (now : Sl) (w : World) (R : SV → World → Prop) : Prop :=
  Ret Try.prog 43 [SV.int IntKind.i64 check] w fun (r : SV) (w1 : World) =>
    ∃ (b : Bool),
      r = SV.bool b ∧
        Br (!b) (R (SV.tuple [SV.int IntKind.i64 0, SV.int IntKind.i64 21]) w1)
          (Br ((↑old.2 : Int) != (↑now.2 : Int)) (R (SV.tuple [SV.int IntKind.i64 0, SV.int IntKind.i64 22]) w1)
            (∃ (I : Int → Int → World → Prop),
              ∃ (M : Int → Int → World → Nat),
                I check 0 w1 ∧
                  ∀ (n n_1 : Int) (w1 : World),
                    I n n_1 w1 →
                      Br (decide (n_1 < (↑old.2 : Int)))
                        (Ret Try.prog 45 [SV.slice old, SV.int IntKind.i64 n_1] w1 fun (r : SV) (w1_1 : World) =>
                          ∃ (n_2 : Int),
                            r = SV.int IntKind.i64 n_2 ∧
                              Ret Try.prog 45 [SV.slice now, SV.int IntKind.i64 n_1] w1_1 fun (r : SV) (w1_2 : World) =>
                                ∃ (n_3 : Int),
                                  r = SV.int IntKind.i64 n_3 ∧
                                    Ret Try.prog 29 [SV.int IntKind.i64 n, SV.int IntKind.i64 n_2, SV.int IntKind.i64 n_3] w1_2 fun (r : SV) (w1_3 : World) =>
                                      ∃ (n_4 : Int),
                                        ∃ (n_5 : Int),
                                          r = SV.tuple [SV.int IntKind.i64 n_4, SV.int IntKind.i64 n_5] ∧
                                            I n_4 (wr IntKind.i64 (n_1 + 2)) w1_3 ∧ M n_4 (wr IntKind.i64 (n_1 + 2)) w1_3 < M n n_1 w1)
                        (R (SV.tuple [SV.int IntKind.i64 n, SV.int IntKind.i64 0]) w1)))
theorem f31_of (check : Int) (old : Sl) (now : Sl) (w : World) (R : SV → World → Prop) (hV : vc31 check old now w R) : Ret Try.prog 31 [.int .i64 check, .slice old, .slice now] w R :=
  have e : vc31 check old now w R = fnVC X Try.f31 a31 [.int .i64 check, .slice old, .slice now] w R := by kernel_rfl
  fnVC_sound X_ok (n := a31) (e ▸ hV) (by kernel_rfl) (by kernel_rfl) rfl rfl

def vc32 (b : Sl) (w : World) (R : SV → World → Prop) : Prop :=
  ∃ (I : Int → World → Prop),
    ∃ (M : Int → World → Nat),
      I 0 w ∧
        ∀ (n : Int) (w1 : World),
          I n w1 →
            Br (decide (n < (↑b.2 : Int)))
              (Need (decide (0 ≤ n) && decide (n < (↑b.2 : Int)) && Option.isSome b.1)
                (∃ (n_1 : Int),
                  World.cell? w1 (Sl.at b 1 (Int.toNat n)) = some (Value.int IntKind.u8 n_1) ∧
                    Br (n_1 != 0) (R (SV.bool false) w1) (I (wr IntKind.i64 (n + 1)) w1 ∧ M (wr IntKind.i64 (n + 1)) w1 < M n w1)))
              (R (SV.bool true) w1)
theorem f32_of (b : Sl) (w : World) (R : SV → World → Prop) (hV : vc32 b w R) : Ret Try.prog 32 [.slice b] w R :=
  have e : vc32 b w R = fnVC X Try.f32 a32 [.slice b] w R := by kernel_rfl
  fnVC_sound X_ok (n := a32) (e ▸ hV) (by kernel_rfl) (by kernel_rfl) rfl rfl

def vc39 (n : Int) (w : World) (R : SV → World → Prop) : Prop :=
  ∃ (I : Int → World → Prop),
    ∃ (M : Int → World → Nat),
      I n w ∧
        ∀ (n : Int) (w1 : World),
          I n w1 →
            Br (decide (n > 65535))
              (I (wr IntKind.i64 (iand IntKind.i64 n 65535 + gshr IntKind.i64 n 16)) w1 ∧ M (wr IntKind.i64 (iand IntKind.i64 n 65535 + gshr IntKind.i64 n 16)) w1 < M n w1)
              (R (SV.int IntKind.i64 n) w1)
theorem f39_of (n : Int) (w : World) (R : SV → World → Prop) (hV : vc39 n w R) : Ret Try.prog 39 [.int .i64 n] w R :=
  have e : vc39 n w R = fnVC X Try.f39 a39 [.int .i64 n] w R := by kernel_rfl
  fnVC_sound X_ok (n := a39) (e ▸ hV) (by kernel_rfl) (by kernel_rfl) rfl rfl

def vc40 (n : Int) (w : World) (R : SV → World → Prop) : Prop :=
  Br (n == 0) (R (SV.int IntKind.i64 0) w) (R (SV.int IntKind.i64 (wr IntKind.i64 (Int.tmod (wr IntKind.i64 (n - 1)) 65535 + 1))) w)
theorem f40_of (n : Int) (w : World) (R : SV → World → Prop) (hV : vc40 n w R) : Ret Try.prog 40 [.int .i64 n] w R :=
  have e : vc40 n w R = fnVC X Try.f40 a40 [.int .i64 n] w R := by kernel_rfl
  fnVC_sound X_ok (n := a40) (e ▸ hV) (by kernel_rfl) (by kernel_rfl) rfl rfl

def vc41 (ip_0 : Int) (ip_1 : Nat → Int) (w : World) (R : SV → World → Prop) : Prop :=
  ∀ (b : Nat),
    Br (ip_0 == 6) (∀ (w1 : World), Upd [] [b] w w1 → R (SV.int IntKind.i64 6) w1)
      (Br (ip_0 != 4) (∀ (w1 : World), Upd [] [b] w w1 → R (SV.int IntKind.i64 0) w1)
        (∀ (b_1 : Nat),
          Br (!eqArr 16 ip_1 (fset (fset (fset (fset (fun (x : Nat) => 0) 0 (ip_1 0)) 1 (ip_1 1)) 2 (ip_1 2)) 3 (ip_1 3)))
            (∀ (w1 : World), Upd [] [b_1, b] w w1 → R (SV.int IntKind.i64 0) w1) (∀ (w1 : World), Upd [] [b_1, b] w w1 → R (SV.int IntKind.i64 4) w1)))
theorem f41_of (ip_0 : Int) (ip_1 : Nat → Int) (w : World) (R : SV → World → Prop) (hV : vc41 ip_0 ip_1 w R) : Ret Try.prog 41 [.struct [.int .i64 ip_0, .arr .u8 16 ip_1]] w R :=
  have e : vc41 ip_0 ip_1 w R = fnVC X Try.f41 a41 [.struct [.int .i64 ip_0, .arr .u8 16 ip_1]] w R := by kernel_rfl
  fnVC_sound X_ok (n := a41) (e ▸ hV) (by kernel_rfl) (by kernel_rfl) rfl rfl

def vc43 (n : Int) (w : World) (R : SV → World → Prop) : Prop :=
  Br (decide (n ≥ 0)) (R (SV.bool (decide (n ≤ 65535))) w) (R (SV.bool false) w)
theorem f43_of (n : Int) (w : World) (R : SV → World → Prop) (hV : vc43 n w R) : Ret Try.prog 43 [.int .i64 n] w R :=
  have e : vc43 n w R = fnVC X Try.f43 a43 [.int .i64 n] w R := by kernel_rfl
  fnVC_sound X_ok (n := a43) (e ▸ hV) (by kernel_rfl) (by kernel_rfl) rfl rfl

end Go.Vc.S2
end

section
namespace Go.Vc
set_option linter.unusedVariables false
set_option linter.unusedSimpArgs false
set_option autoImplicit false

/-- a slice of slices of bytes -/
structure Parts (w : World) (s : Sl) (ls : List (List Int)) (ss : List Sl) : Prop where
  row : Sees cSl w s ss
  len : ss.length = ls.length
  each : ∀ i (h : i < ls.length), SeesB w (ss[i]'(by rw [len]; exact h)) ls[i]

section
variable {w w1 : World} {s : Sl} {ls : List (List Int)} {ss : List Sl}
theorem Parts.slen (h : Parts w s ls ss) : s.len = ls.length := by rw [h.row.len, h.len]
theorem Parts.nil (w : World) (p : Option Addr) (cap : Nat) : Parts w ⟨p, 0, cap⟩ [] [] := ⟨Sees.nil _ _ _ _, rfl, by simp⟩
theorem Parts.upd {m n : List Nat} (h : Parts w s ls ss) (u : Upd m n w w1) (h1 : ∀ b ∈ s.blk, b ∉ m) (h2 : ∀ x ∈ ss, ∀ b ∈ x.blk, b ∉ m) : Parts w1 s ls ss where
  row := h.row.upd u h1
  len := h.len
  each i hi := (h.each i hi).upd u (h2 _ (List.getElem_mem _))
theorem Parts.old {n : List Nat} (h : Parts w s ls ss) (u : Upd [] n w w1) : Parts w1 s ls ss := h.upd u (by simp) (by simp)
theorem Parts.get (h : Parts w s ls ss) {i : Int} (h0 : 0 ≤ i) (hi : i < ls.length) : ∃ (h1 : i.toNat < ss.length) (h2 : i.toNat < ls.length),
    w.cell? (s.at 1 i.toNat) = some (ss[i.toNat]).val ∧ SeesB w ss[i.toNat] ls[i.toNat] ∧ s.ptr.isSome = true := by
  have h2 : i.toNat < ls.length := by omega
  have h1 : i.toNat < ss.length := by rw [h.len]; exact h2
  refine ⟨h1, h2, ?_, h.each _ h2, h.row.isSome (by decide) (by omega)⟩
  have := h.row.elem h1 0 (by simp [cSl])
  rw [add_zero] at this
  exact this
end

theorem take_snoc {α : Type} {l : List α} {k : Nat} (h : k < l.length) : l.take (k + 1) = l.take k ++ [l[k]] := List.take_succ_eq_append_getElem h
theorem flat_snoc {α : Type} {ls : List (List α)} {k : Nat} (h : k < ls.length) : (ls.take (k + 1)).flatten = (ls.take k).flatten ++ ls[k] := by rw [take_snoc h, List.flatten_append]; simp
theorem flat_le {α : Type} (ls : List (List α)) (k : Nat) : (ls.take k).flatten.length ≤ ls.flatten.length := by
  have := congrArg List.length (List.take_append_drop k ls ▸ List.flatten_append (L₁ := ls.take k) (L₂ := ls.drop k))
  rw [List.length_append] at this
  have h2 : (List.take k ls ++ List.drop k ls).flatten.length = ls.flatten.length := by rw [List.take_append_drop]
  omega
theorem byt_flat {ls : List (List Int)} (h : ∀ l ∈ ls, Byt l) : Byt ls.flatten := fun x hx => by
  obtain ⟨l, hl, hx⟩ := List.mem_flatten.1 hx
  exact h l hl x hx
theorem byt_flat_take {ls : List (List Int)} (h : ∀ l ∈ ls, Byt l) (k : Nat) : Byt (ls.take k).flatten := byt_flat fun l hl => h l (List.mem_of_mem_take hl)
theorem bt_nat {l : List Int} {i : Nat} (h : i < l.length) : bt l (i : Int) = l[i] := by simp [bt, h]
theorem bt_int {l : List Int} {i : Int} (h0 : 0 ≤ i) (h : i.toNat < l.length) : bt l i = l[i.toNat] := by simp [bt, h]
/-- all of w's blocks but m's stand; what has been read of a slice stands -/
theorem needB {X : Prop} {w : World} {s : Sl} {l : List Int} (h : SeesB w s l) {i : Int} (h0 : 0 ≤ i) (h1 : i < l.length) (x : X) : Need (decide (0 ≤ i) && decide (i < (s.len : Int)) && s.ptr.isSome) X :=
  needIx h0 (by rw [h.len]; exact h1) (h.isSome (by decide) (by omega)) x
theorem needB' {X : Prop} {w : World} {s : Sl} {l : List Int} (h : SeesB w s l) {i : Int} (h0 : 0 ≤ i) (h1 : i < l.length) (x : X) : Need (decide (0 ≤ i) && decide (i < (l.length : Int)) && s.ptr.isSome) X :=
  needIx h0 h1 (h.isSome (by decide) (by omega)) x
theorem needP {X : Prop} {w : World} {s : Sl} {ls : List (List Int)} {ss : List Sl} (h : Parts w s ls ss) {i : Int} (h0 : 0 ≤ i) (h1 : i < ls.length) (x : X) : Need (decide (0 ≤ i) && decide (i < (s.len : Int)) && s.ptr.isSome) X :=
  needIx h0 (by rw [h.slen]; exact h1) (h.get h0 h1).2.2.2.2 x
/-- a row that was just made of bytes -/
theorem rowB {w : World} {b e n cap : Nat} {f : Nat × Nat} {cs : List Value} (h : w.heap[b]? = some (.cells cs.toArray e f)) (l : List Int) (hl : cs = cU8.cells l) (hn : n = l.length) : SeesB w ⟨some ⟨b, 0, none⟩, n, cap⟩ l := sees_row h l hl hn
def AllB (w : World) : List Sl → List (List Int) → Prop
  | [], [] => True
  | s :: r, l :: q => SeesB w s l ∧ AllB w r q
  | _, _ => False
theorem AllB.len {w : World} : ∀ {ss : List Sl} {ls : List (List Int)}, AllB w ss ls → ss.length = ls.length
  | [], [], _ => rfl
  | _ :: _, _ :: _, h => by simp [AllB.len h.2]
  | [], _ :: _, h => h.elim
  | _ :: _, [], h => h.elim
theorem AllB.get {w : World} : ∀ {ss : List Sl} {ls : List (List Int)} (h : AllB w ss ls) (i : Nat) (hi : i < ls.length), SeesB w (ss[i]'(by rw [h.len]; exact hi)) ls[i]
  | _ :: _, _ :: _, h, 0, _ => h.1
  | _ :: _, _ :: _, h, i + 1, hi => AllB.get h.2 i (by simpa using hi)
  | [], _ :: _, h, _, _ => h.elim
/-- a row that was just made of slices -/
theorem rowP {w : World} {b e n cap : Nat} {f : Nat × Nat} {cs : List Value} {ss : List Sl} {ls : List (List Int)} (h : w.heap[b]? = some (.cells cs.toArray e f)) (hl : cs = cSl.cells ss) (hn : n = ss.length) (ha : AllB w ss ls) :
    Parts w ⟨some ⟨b, 0, none⟩, n, cap⟩ ls ss := ⟨sees_row h ss hl hn, ha.len, ha.get⟩
end Go.Vc
end

section
namespace Go.Vc
set_option autoImplicit false
set_option linter.unusedVariables false

/-- a number folded -/
def fd (n : Int) : Int := if n = 0 then 0 else (n - 1) % 65535 + 1
theorem fd_range {n : Int} (h : 0 ≤ n) : 0 ≤ fd n ∧ fd n ≤ 65535 := by unfold fd; split <;> omega
theorem fd_id {n : Int} (h : 0 ≤ n) (h1 : n ≤ 65535) : fd n = n := by unfold fd; split <;> omega
theorem fd_step {n : Int} (h : 65535 < n) : fd (n % 65536 + n / 65536) = fd n := by unfold fd; split <;> split <;> omega
theorem fd_add {a b : Int} (ha : 0 ≤ a) (hb : 0 ≤ b) : fd (a + fd b) = fd (a + b) := by unfold fd; repeat' split <;> omega
theorem fd_add' {a b : Int} (ha : 0 ≤ a) (hb : 0 ≤ b) : fd (fd a + b) = fd (a + b) := by rw [Int.add_comm, fd_add hb ha, Int.add_comm]
theorem fd_eq {a b : Int} (ha : 0 ≤ a) (hb : 0 ≤ b) (h : a % 65535 = b % 65535) (hz : a = 0 ↔ b = 0) : fd a = fd b := by unfold fd; split <;> split <;> omega
theorem fd_most {a : Int} (ha : 0 ≤ a) : fd a = 65535 ↔ a ≠ 0 ∧ a % 65535 = 0 := by unfold fd; split <;> omega
theorem fd_zero {a : Int} (ha : 0 ≤ a) : fd a = 0 ↔ a = 0 := by unfold fd; split <;> omega

/-- the weighted sum of bytes; h: the first one is a word's higher half -/
def ws : Bool → List Int → Int
  | _, [] => 0
  | h, b :: r => (if h then b * 256 else b) + ws (!h) r
def par (h : Bool) (n : Nat) : Bool := if n % 2 = 0 then h else !h
theorem par_succ (h : Bool) (n : Nat) : par (!h) n = par h (n + 1) := by
  unfold par
  cases h <;> (split <;> split <;> first | rfl | omega)
theorem par_par (h : Bool) (n m : Nat) : par (par h n) m = par h (n + m) := by
  simp only [par]
  cases h <;> by_cases h1 : n % 2 = 0 <;> by_cases h2 : m % 2 = 0 <;> by_cases h3 : (n + m) % 2 = 0 <;> simp [h1, h2, h3] <;> omega
theorem ws_app : ∀ (a b : List Int) (h : Bool), ws h (a ++ b) = ws h a + ws (par h a.length) b
  | [], b, h => by simp [ws, par]
  | x :: a, b, h => by
    simp only [List.cons_append, ws, ws_app a b (!h), List.length_cons, par_succ]
    omega
theorem ws_snoc (a : List Int) (x : Int) (h : Bool) : ws h (a ++ [x]) = ws h a + (if par h a.length then x * 256 else x) := by
  rw [ws_app]; simp [ws]
theorem ws_nonneg : ∀ {l : List Int} (h : Bool), (∀ x ∈ l, 0 ≤ x ∧ x < 256) → 0 ≤ ws h l ∧ ws h l ≤ 65280 * l.length
  | [], h, _ => by simp [ws]
  | x :: l, h, hb => by
    have ih := ws_nonneg (l := l) (!h) (fun y hy => hb y (by simp [hy]))
    have hx := hb x (by simp)
    simp only [ws, List.length_cons]
    split <;> omega
theorem ws_zero : ∀ {l : List Int} (h : Bool), (∀ x ∈ l, 0 ≤ x ∧ x < 256) → (ws h l = 0 ↔ ∀ x ∈ l, x = 0)
  | [], h, _ => by simp [ws]
  | x :: l, h, hb => by
    have ih := ws_zero (l := l) (!h) (fun y hy => hb y (by simp [hy]))
    have ih2 := ws_nonneg (l := l) (!h) (fun y hy => hb y (by simp [hy]))
    have hx := hb x (by simp)
    simp only [ws, List.mem_cons, forall_eq_or_imp]
    rw [← ih]
    split <;> omega
/-- the document's sum -/
def sumOf (l : List Int) : Int := fd (ws true l)
/-- what a byte weighs -/
def wt (h : Bool) (i : Nat) (x : Int) : Int := if par h i then x * 256 else x
theorem wt_even {q : Nat} (h : q % 2 = 0) (x : Int) : wt true q x = x * 256 := by
  have : par true q = true := by unfold par; rw [if_pos h]
  unfold wt; rw [if_pos this]
theorem wt_odd {q : Nat} (h : q % 2 = 1) (x : Int) : wt true q x = x := by
  have : par true q = false := by unfold par; rw [if_neg (by omega)]; rfl
  unfold wt; rw [if_neg (by rw [this]; decide)]
theorem ws_set : ∀ (l : List Int) (i : Nat) (v : Int) (h : Bool) (hi : i < l.length), ws h (l.set i v) = ws h l - wt h i l[i] + wt h i v
  | x :: l, 0, v, h, _ => by
    simp only [List.set_cons_zero, ws, List.getElem_cons_zero, wt, par]
    cases h <;> simp <;> omega
  | x :: l, i + 1, v, h, hi => by
    have ih := ws_set l i v (!h) (by simpa using hi)
    simp only [List.set_cons_succ, ws, List.getElem_cons_succ, ih]
    simp only [wt, par_succ]
    omega
theorem xor_bit : ∀ b : Fin 256, ∀ k : Fin 8, (b.val ^^^ 2 ^ k.val = b.val + 2 ^ k.val) ∨ (b.val ^^^ 2 ^ k.val) + 2 ^ k.val = b.val := by decide +kernel
/-- no power of two below 2^16 is a multiple of 65535 -/
theorem pow_mod : ∀ k : Fin 8, (2 ^ k.val % 65535 ≠ 0) ∧ (2 ^ k.val * 256 % 65535 ≠ 0) := by decide
end Go.Vc
end
