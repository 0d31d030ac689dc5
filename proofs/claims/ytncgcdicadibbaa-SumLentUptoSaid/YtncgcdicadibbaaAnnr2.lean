import Derived.Test.YtncgcdicadibbaaTabr2
open Go Go.Vc
namespace Go.Vc.S2
/-- gosem.cut.init -/
def a2 : Ann := .leaf
/-- weir/weirlaw2.SumAdds -/
def a3 : Ann := (.seq .leaf (.seq (.seq .leaf (.cond (.seq .leaf .leaf) .leaf)) (.seq .leaf (.seq .leaf (.seq .leaf (.seq .leaf (.seq .leaf (.seq .leaf .leaf))))))))
/-- weir/weirlaw2.SumOwn -/
def a4 : Ann := (.seq .leaf (.seq .leaf (.cut [(.t 0, (.slice 5))] [] (.seq .leaf (.cond .leaf .leaf)) (.seq .leaf (.seq .leaf (.seq .leaf (.cut [] [] (.seq .leaf (.cond (.seq .leaf .leaf) .leaf)) (.seq .leaf (.cut [] [] (.seq .leaf (.cond (.seq .leaf .leaf) .leaf)) (.cut [(.t 2, (.int .i64))] [] (.seq .leaf (.cond .leaf .leaf)) (.seq .leaf (.seq (.draw (.early 0 (.early 1 (.early 2 (.early 3 (.early 4 (.early 5 (.early 6 (.early 7 (.early 8 (.early 9 (.early 10 (.early 11 (.early 12 (.fork [(13, .done)]))))))))))))))) (.seq .leaf .leaf)))))))))))))
/-- weir/weirlaw2.SumParts -/
def a5 : Ann := (.seq .leaf (.seq .leaf (.cut [] [] (.seq .leaf (.cond (.seq .leaf .leaf) .leaf)) (.seq .leaf (.seq .leaf (.seq .leaf (.cut [(.t 9, (.int .i64))] [] (.seq .leaf (.cond .leaf .leaf)) (.seq .leaf (.cut [] [] (.seq (.draw (.early 0 (.early 1 (.early 2 (.early 3 (.early 4 (.early 5 (.early 8 (.fork [(6, (.fork [(7, (.early 9 (.early 10 (.early 11 (.early 12 (.early 13 (.early 14 (.early 15 (.early 16 (.early 19 (.fork [(17, (.fork [(18, (.early 20 (.early 21 (.early 22 (.early 23 (.early 24 (.early 25 (.early 26 (.early 27 (.early 28 (.early 31 (.fork [(29, (.fork [(30, (.early 32 (.early 33 .done)))]))]))))))))))))]))])))))))))))]))]))))))))) (.cond (.seq .leaf .leaf) .leaf)) (.seq (.seq .leaf (.block (.loop [(.t 10, (.int .i64))] [] (.seq (.seq .leaf (.cond .leaf .leaf)) (.seq (.block (.seq .leaf (.seq .leaf .leaf))) .leaf))))) (.seq .leaf .leaf)))))))))))
/-- weir/weirlaw2.SumZeros -/
def a6 : Ann := (.seq .leaf (.seq .leaf (.cut [] [] (.seq .leaf (.cond (.seq .leaf .leaf) .leaf)) (.seq .leaf (.seq .leaf (.seq .leaf (.seq .leaf (.seq (.seq .leaf (.cond (.seq .leaf .leaf) .leaf)) (.seq .leaf (.seq .leaf .leaf))))))))))
/-- weir/weirlaw2.SumPseudo -/
def a7 : Ann := (.seq .leaf (.seq .leaf (.seq .leaf (.cut [] [0, 1, 2] (.seq .leaf (.cond (.seq .leaf .leaf) .leaf)) (.seq .leaf (.seq .leaf (.cut [] [0, 1, 2] (.seq .leaf (.cond (.seq .leaf .leaf) .leaf)) (.seq (.seq .leaf (.block (.loop [(.t 15, (.int .i64))] [0, 1, 2] (.seq (.seq .leaf (.cond .leaf .leaf)) (.seq (.block .leaf) .leaf))))) (.seq (.seq .leaf (.block (.loop [(.t 16, (.int .i64))] [0, 1, 2] (.seq (.seq .leaf (.cond .leaf .leaf)) (.seq (.block .leaf) .leaf))))) (.seq .leaf (.seq .leaf (.seq .leaf (.cut [] [0, 1, 2] (.seq .leaf (.cond (.seq .leaf .leaf) .leaf)) (.seq (.seq .leaf (.block (.loop [(.t 20, (.int .i64))] [0, 1, 2] (.seq (.seq .leaf (.cond .leaf .leaf)) (.seq (.block (.seq .leaf (.cond (.seq .leaf .leaf) .leaf))) .leaf))))) (.seq (.seq .leaf (.block (.loop [(.t 21, (.int .i64))] [0, 1, 2] (.seq (.seq .leaf (.cond .leaf .leaf)) (.seq (.block (.seq .leaf (.cond (.seq .leaf .leaf) .leaf))) .leaf))))) (.seq .leaf .leaf))))))))))))))))
/-- weir/weirlaw2.SumFixes -/
def a8 : Ann := (.seq .leaf (.seq .leaf (.cut [] [] (.seq .leaf (.cond (.seq .leaf .leaf) .leaf)) (.seq .leaf (.seq .leaf (.cut [] [] (.seq .leaf (.cond (.seq .leaf .leaf) .leaf)) (.seq .leaf (.seq (.seq .leaf (.cond (.seq .leaf .leaf) .leaf)) (.seq (.draw (.early 0 (.early 1 (.early 3 (.early 4 (.fork [(2, (.fork [(5, (.early 6 (.fork [(7, (.fork [(8, .done)]))]))), (7, (.fork [(5, (.early 6 (.fork [(8, .done)])))]))])), (7, (.fork [(2, (.fork [(5, (.early 6 (.fork [(8, .done)])))]))]))])))))) (.seq (.draw (.early 0 (.early 1 (.early 2 (.early 3 (.early 4 (.early 5 (.early 6 (.fork [(7, (.early 8 (.early 9 (.early 10 (.early 11 (.early 12 .done))))))]))))))))) (.seq .leaf (.seq .leaf .leaf))))))))))))
/-- weir/weirlaw2.SumTurns -/
def a9 : Ann := (.seq .leaf (.seq .leaf (.cut [] [] (.seq .leaf (.cond (.seq .leaf .leaf) .leaf)) (.seq .leaf (.seq .leaf (.cut [(.t 7, (.int .i64))] [] (.seq .leaf (.cond .leaf .leaf)) (.seq .leaf (.seq .leaf (.seq .leaf (.seq .leaf (.cut [(.t 11, (.int .i64)), (.t 12, (.int .i64))] [] (.seq .leaf (.block (.loop [(.t 11, (.int .i64)), (.t 12, (.int .i64)), (.t 13, (.int .i64))] [] (.cut [] [] (.seq .leaf (.cond .leaf .leaf)) (.seq (.block (.draw (.early 0 (.early 1 (.early 2 (.early 3 (.early 4 (.early 5 (.early 6 (.early 7 (.early 8 (.early 9 (.early 10 (.early 11 (.early 12 (.early 13 (.early 14 (.early 15 (.early 16 (.early 17 (.early 18 (.early 19 (.early 20 (.early 21 (.early 22 (.early 23 (.early 24 (.early 25 (.early 26 (.fork [(27, (.early 28 (.early 29 (.early 30 (.early 31 (.early 32 .done))))))])))))))))))))))))))))))))))))) .leaf))))) (.cut [] [] (.seq .leaf (.cond (.seq .leaf .leaf) .leaf)) (.cut [] [] (.seq .leaf (.cond (.seq .leaf (.seq (.draw (.early 0 (.early 1 (.early 2 (.early 3 (.early 4 (.early 6 (.early 7 (.early 8 (.early 9 (.early 10 (.early 11 (.fork [(5, (.fork [(12, (.fork [(13, (.fork [(14, (.early 15 (.early 16 (.early 17 (.early 18 (.early 19 .done))))))]))]))])), (12, (.fork [(5, (.fork [(13, (.fork [(14, (.early 15 (.early 16 (.early 17 (.early 18 (.early 19 .done))))))]))]))]))]))))))))))))) (.seq .leaf (.cond (.seq .leaf .leaf) .leaf)))) .leaf)) (.seq (.seq .leaf (.block (.loop [(.t 14, (.int .i64))] [] (.seq (.seq .leaf (.cond .leaf .leaf)) (.seq (.block .leaf) .leaf))))) (.seq (.seq .leaf (.cond (.seq .leaf .leaf) .leaf)) (.seq .leaf .leaf))))))))))))))))
/-- weir/weirlaw2.SumAgain -/
def a10 : Ann := (.seq .leaf (.seq (.seq .leaf (.cond (.seq .leaf .leaf) .leaf)) (.cut [(.t 0, (.slice 24))] [] (.seq .leaf (.cond .leaf .leaf)) (.seq .leaf (.seq (.seq .leaf (.block (.loop [(.t 8, (.int .i64))] [] (.cut [] [] (.seq .leaf (.cond .leaf .leaf)) (.cut [] [] (.block (.seq .leaf (.seq (.seq .leaf (.block (.loop [(.t 9, (.slice 24)), (.t 10, (.int .i64))] [] (.seq (.seq .leaf (.cond .leaf .leaf)) (.seq (.block .leaf) .leaf))))) (.cut [] [] (.seq .leaf (.cond (.seq .leaf .leaf) .leaf)) (.cut [] [] (.seq .leaf (.cond (.seq (.draw (.early 0 (.early 1 (.early 2 (.early 3 (.early 4 (.early 5 (.early 6 (.fork [(7, (.early 8 (.early 9 (.early 10 (.early 11 (.early 12 .done))))))]))))))))) (.seq (.draw (.early 0 (.early 1 (.early 2 (.early 3 (.early 4 (.early 5 (.early 6 (.fork [(7, (.early 8 (.early 9 (.early 10 (.early 11 (.early 12 .done))))))]))))))))) (.seq (.draw (.early 0 (.early 1 (.early 2 (.early 3 (.early 4 (.early 5 (.early 6 (.fork [(7, (.early 8 (.early 9 (.early 10 (.early 11 (.early 12 .done))))))]))))))))) (.seq (.draw (.early 0 (.early 1 (.early 2 (.early 3 (.early 4 (.early 5 (.early 6 (.fork [(7, (.early 8 (.early 9 (.early 10 (.early 11 (.early 12 .done))))))]))))))))) (.seq .leaf (.cond (.seq .leaf .leaf) .leaf)))))) .leaf)) (.seq (.seq .leaf (.cond (.seq .leaf .leaf) .leaf)) (.seq .leaf (.cond .leaf .leaf)))))))) .leaf))))) (.seq .leaf .leaf))))))
/-- weir/weirlaw2.SumLong -/
def a11 : Ann := (.seq .leaf (.seq (.seq .leaf (.cond (.seq .leaf .leaf) .leaf)) (.seq .leaf (.seq .leaf (.seq .leaf (.seq (.seq .leaf (.block (.loop [(.t 8, (.int .i64))] [] (.seq (.seq .leaf (.cond .leaf .leaf)) (.seq (.block (.seq .leaf .leaf)) .leaf))))) (.seq .leaf (.cut [] [] (.seq .leaf (.cond (.seq .leaf .leaf) .leaf)) (.seq .leaf (.seq .leaf (.seq (.seq .leaf (.block (.loop [(.t 10, (.slice 24)), (.t 11, (.int .i64))] [] (.seq (.seq .leaf (.cond .leaf .leaf)) (.seq (.block .leaf) .leaf))))) (.seq .leaf (.seq .leaf .leaf)))))))))))))
/-- weir/weirlaw2.SumLent -/
def a12 : Ann := (.seq .leaf (.seq .leaf (.seq .leaf (.seq .leaf (.seq .leaf (.seq (.seq .leaf (.block (.loop [(.t 10, (.slice 24)), (.t 15, (.int .i64))] [0, 1, 2] (.seq (.seq .leaf (.cond .leaf .leaf)) (.cut [(.t 10, (.slice 24))] [0, 1, 2] (.block (.seq .leaf (.seq .leaf (.seq .leaf (.cut [] [0, 1, 2] (.seq .leaf (.cond (.seq .leaf .leaf) .leaf)) .leaf))))) .leaf))))) (.seq (.seq .leaf (.cond (.seq .leaf .leaf) .leaf)) (.seq .leaf (.seq .leaf .leaf)))))))))
/-- weir/weirlaw2.awake -/
def a13 : Ann := (.seq .leaf (.seq .leaf (.seq .leaf .leaf)))
/-- weir/weirlaw2.laid -/
def a14 : Ann := (.seq .leaf (.seq .leaf (.seq .leaf (.cut [(.t 5, (.slice 5)), (.t 6, (.slice 3))] [] (.seq .leaf (.block (.loop [(.t 5, (.slice 5)), (.t 6, (.slice 3)), (.t 7, (.int .i64))] [] (.cut [] [] (.seq .leaf (.cond .leaf .leaf)) (.seq (.block (.seq .leaf (.seq (.seq .leaf (.cond .leaf .leaf)) (.seq .leaf (.seq .leaf .leaf))))) .leaf))))) (.seq .leaf (.seq .leaf (.seq .leaf (.seq (.seq .leaf (.block (.loop [(.t 9, (.slice 24)), (.t 10, (.int .i64)), (.t 11, (.int .i64))] [] (.seq (.seq .leaf (.cond .leaf .leaf)) (.seq (.block (.seq .leaf .leaf)) .leaf))))) (.seq .leaf .leaf)))))))))
/-- weir/weirlaw2.joined -/
def a15 : Ann := (.seq .leaf (.seq .leaf (.seq (.seq .leaf (.block (.loop [(.t 3, (.slice 5)), (.t 4, (.int .i64))] [] (.seq (.seq .leaf (.cond .leaf .leaf)) (.seq (.block .leaf) .leaf))))) (.seq .leaf .leaf))))
/-- weir/sum.Sum -/
def a16 : Ann := (.seq .leaf (.seq .leaf (.seq (.seq .leaf (.block (.loop [(.t 3, (.int .i64)), (.t 4, .bool), (.t 11, (.int .i64))] [] (.seq .leaf (.seq (.cond .leaf .leaf) (.seq (.block (.seq .leaf (.seq (.seq .leaf (.block (.loop [(.t 3, (.int .i64)), (.t 4, .bool), (.t 17, (.int .i64))] [] (.seq .leaf (.seq (.cond .leaf .leaf) (.seq (.block (.seq .leaf (.cut [(.t 3, (.int .i64))] [] (.seq .leaf (.cond .leaf .leaf)) .leaf))) .leaf)))))) .leaf))) .leaf)))))) (.seq .leaf .leaf))))
/-- weir/sum.Check -/
def a17 : Ann := (.seq .leaf (.seq .leaf .leaf))
/-- weir/sum.Good -/
def a18 : Ann := (.seq .leaf (.seq .leaf .leaf))
/-- weir/weirref2.Sum -/
def a19 : Ann := (.seq .leaf (.seq .leaf (.seq .leaf (.seq (.seq .leaf (.block (.loop [(.t 3, (.int .i64)), (.t 4, (.int .i64)), (.t 5, (.int .i64))] [] (.seq (.seq .leaf (.cond .leaf .leaf)) (.seq (.block (.seq .leaf (.block (.loop [(.t 3, (.int .i64)), (.t 4, (.int .i64)), (.t 6, (.int .i64))] [] (.seq (.seq .leaf (.cond .leaf .leaf)) (.cut [(.t 3, (.int .i64)), (.t 4, (.int .i64))] [] (.block (.seq .leaf (.cut [(.t 7, (.int .i64))] [] (.seq .leaf (.cond .leaf .leaf)) (.seq .leaf .leaf)))) .leaf)))))) .leaf))))) (.seq .leaf .leaf)))))
/-- weir/weirref2.Check -/
def a20 : Ann := (.seq .leaf (.seq .leaf .leaf))
/-- weir/weirref2.Good -/
def a21 : Ann := (.seq .leaf (.seq .leaf .leaf))
/-- weir/weirlaw2.same -/
def a22 : Ann := (.seq .leaf (.seq (.seq .leaf (.cond (.seq .leaf .leaf) .leaf)) (.seq (.seq .leaf (.block (.loop [(.t 5, (.int .i64))] [] (.seq (.seq .leaf (.cond .leaf .leaf)) (.seq (.block (.seq (.draw (.early 0 (.early 1 (.early 2 (.early 3 (.early 4 (.early 5 (.early 6 (.early 7 (.early 8 .done)))))))))) (.cond (.seq .leaf .leaf) .leaf))) .leaf))))) (.seq .leaf .leaf))))
/-- weir/weirlaw2.even -/
def a23 : Ann := (.seq .leaf (.cut [(.t 0, (.slice 5))] [] (.seq .leaf (.cond .leaf .leaf)) (.seq .leaf (.seq .leaf (.seq (.seq .leaf (.cond .leaf .leaf)) (.seq .leaf .leaf))))))
/-- weir/weirlaw2.place -/
def a24 : Ann := (.seq .leaf (.cut [(.t 1, (.int .i64))] [] (.seq .leaf (.cond .leaf .leaf)) (.seq .leaf .leaf)))
/-- weir/weirlaw2.put -/
def a25 : Ann := (.seq .leaf .leaf)
/-- weir/sum.Pseudo -/
def a26 : Ann := (.seq .leaf (.seq .leaf (.cut [] [0, 1] (.block (.seq .leaf (.cond (.seq .leaf .leaf) (.seq .leaf (.cond (.seq .leaf .leaf) .leaf))))) (.seq .leaf (.seq (.seq .leaf (.cond (.seq .leaf (.seq .leaf (.seq .leaf .leaf))) .leaf)) (.seq .leaf (.seq .leaf (.seq .leaf .leaf))))))))
/-- weir/weirref2.Pseudo -/
def a27 : Ann := (.seq .leaf (.seq .leaf (.cut [] [0, 1] (.seq .leaf (.cond (.seq .leaf .leaf) .leaf)) (.cut [] [0, 1] (.seq .leaf (.cond (.seq .leaf .leaf) .leaf)) (.seq .leaf (.seq (.seq .leaf (.cond (.seq .leaf (.seq .leaf .leaf)) .leaf)) (.seq (.seq .leaf (.block (.loop [(.t 11, (.slice 5)), (.t 12, (.int .i64))] [0, 1] (.seq (.seq .leaf (.cond .leaf .leaf)) (.seq (.block .leaf) .leaf))))) (.seq (.seq .leaf (.block (.loop [(.t 11, (.slice 5)), (.t 13, (.int .i64))] [0, 1] (.seq (.seq .leaf (.cond .leaf .leaf)) (.seq (.block .leaf) .leaf))))) (.seq .leaf .leaf)))))))))
/-- weir/sum.Fix -/
def a28 : Ann := (.seq .leaf (.seq (.seq .leaf (.block (.loop [(.t 14, (.int .i64))] [] (.seq .leaf (.seq (.cond .leaf .leaf) (.seq (.block (.seq .leaf (.seq .leaf (.cond (.seq .leaf .leaf) .leaf)))) .leaf)))))) (.seq .leaf .leaf)))
/-- weir/weirref2.Fix -/
def a29 : Ann := (.seq .leaf (.cut [] [] (.seq .leaf (.cond (.seq .leaf .leaf) .leaf)) (.seq .leaf .leaf)))
/-- weir/sum.FixBytes -/
def a30 : Ann := (.seq .leaf (.cut [] [] (.block (.seq .leaf (.cond (.seq .leaf .leaf) (.seq .leaf (.cond (.seq .leaf .leaf) .leaf))))) (.seq (.seq .leaf (.block (.loop [(.t 0, (.int .i64)), (.t 8, (.int .i64))] [] (.seq (.seq .leaf (.cond .leaf .leaf)) (.seq (.block .leaf) .leaf))))) (.seq .leaf .leaf))))
/-- weir/weirref2.FixBytes -/
def a31 : Ann := (.seq .leaf (.seq (.seq .leaf (.cond (.seq .leaf .leaf) .leaf)) (.seq (.seq .leaf (.cond (.seq .leaf .leaf) .leaf)) (.seq (.seq .leaf (.block (.loop [(.t 0, (.int .i64)), (.t 8, (.int .i64))] [] (.seq (.seq .leaf (.cond .leaf .leaf)) (.seq (.block .leaf) .leaf))))) (.seq .leaf .leaf)))))
/-- weir/weirlaw2.zeros -/
def a32 : Ann := (.seq .leaf (.seq (.seq .leaf (.block (.loop [(.t 3, (.int .i64))] [] (.seq (.seq .leaf (.cond .leaf .leaf)) (.seq (.block (.seq .leaf (.cond (.seq .leaf .leaf) .leaf))) .leaf))))) (.seq .leaf .leaf)))
/-- weir/weirlaw2.list -/
def a33 : Ann := (.seq .leaf (.seq .leaf (.seq (.seq .leaf (.block (.loop [(.t 3, (.slice 24)), (.t 4, (.int .i64))] [] (.seq (.seq .leaf (.cond .leaf .leaf)) (.seq (.block .leaf) .leaf))))) (.seq (.seq .leaf (.block (.loop [(.t 3, (.slice 24)), (.t 5, (.int .i64))] [] (.seq (.seq .leaf (.cond .leaf .leaf)) (.seq (.block .leaf) .leaf))))) (.seq .leaf .leaf)))))
/-- weir/weirlaw2.Copied -/
def a34 : Ann := (.seq .leaf (.seq .leaf (.seq .leaf .leaf)))
/-- weir/weirlaw2.stands -/
def a35 : Ann := (.seq .leaf (.seq (.seq .leaf (.cond (.seq .leaf .leaf) .leaf)) (.seq (.seq .leaf (.block (.loop [(.t 5, (.int .i64))] [] (.seq (.seq .leaf (.cond .leaf .leaf)) (.seq (.block (.seq (.draw (.early 0 (.early 1 (.early 2 (.early 3 (.early 4 (.early 5 (.early 6 (.early 7 (.fork [(8, (.early 9 .done))])))))))))) (.cond (.seq .leaf .leaf) .leaf))) .leaf))))) (.seq .leaf (.seq (.seq .leaf (.block (.loop [(.t 7, (.int .i64))] [] (.seq (.seq .leaf (.cond .leaf .leaf)) (.cut [] [] (.block (.seq .leaf (.seq .leaf (.cond (.seq .leaf .leaf) .leaf)))) .leaf))))) (.seq .leaf .leaf))))))
/-- weir/weirlaw2.turned -/
def a36 : Ann := (.seq .leaf (.seq (.seq .leaf (.cond .leaf .leaf)) (.seq .leaf (.seq .leaf (.cond (.draw (.early 0 (.early 1 (.early 2 (.early 3 (.early 4 (.early 5 (.early 6 (.early 7 (.early 8 (.early 9 (.early 10 (.early 11 (.early 12 (.early 13 (.early 14 (.fork [(15, (.early 16 (.fork [(17, .done)])))]))))))))))))))))) (.seq .leaf (.cond (.draw (.early 0 (.early 1 (.early 2 (.early 3 (.early 4 (.early 5 (.early 6 (.early 7 (.early 8 (.early 9 (.early 10 (.early 12 (.early 13 (.fork [(11, (.early 14 (.fork [(15, .done)])))]))))))))))))))) .leaf)))))))
/-- weir/weirlaw2.folded -/
def a37 : Ann := (.seq .leaf (.seq (.block (.loop [(.t 0, (.int .i64))] [] (.seq (.seq .leaf (.cond .leaf .leaf)) (.block .leaf)))) (.seq .leaf .leaf)))
/-- weir/weirlaw2.Apart -/
def a38 : Ann := (.seq .leaf (.seq .leaf (.seq (.seq .leaf (.block (.loop [(.t 3, (.int .i64)), (.t 4, (.int .i64))] [] (.seq (.seq .leaf (.cond .leaf .leaf)) (.seq (.block (.seq .leaf (.seq .leaf (.block (.loop [(.t 5, (.int .i64))] [] (.seq (.seq .leaf (.cond .leaf .leaf)) (.seq (.block .leaf) .leaf))))))) .leaf))))) (.seq .leaf (.seq (.seq .leaf (.block (.loop [(.t 6, (.slice 24)), (.t 7, (.int .i64))] [] (.seq (.seq .leaf (.cond .leaf .leaf)) (.seq (.block (.seq .leaf (.seq (.seq .leaf (.block (.loop [(.t 8, (.slice 5)), (.t 9, (.int .i64))] [] (.seq (.seq .leaf (.cond .leaf .leaf)) (.seq (.block .leaf) .leaf))))) .leaf))) .leaf))))) (.seq (.seq .leaf (.block (.loop [(.t 10, (.int .i64))] [] (.seq (.seq .leaf (.cond .leaf .leaf)) (.cut [] [] (.block (.seq (.draw (.early 0 (.early 1 (.early 2 (.early 3 (.early 4 (.early 5 (.early 6 (.early 7 (.fork [(8, (.early 9 (.early 10 (.early 11 (.early 12 (.early 13 (.early 14 (.early 15 (.early 16 (.early 17 (.early 18 (.fork [(19, (.early 20 (.early 21 (.early 22 (.early 23 (.early 24 (.early 25 (.early 26 (.early 27 (.early 28 (.early 29 (.early 30 (.early 31 (.early 32 (.early 33 (.early 34 (.early 35 (.early 36 .done))))))))))))))))))]))))))))))))])))))))))) (.cond (.seq .leaf .leaf) .leaf))) .leaf))))) (.seq .leaf .leaf)))))))
/-- weir/sum.fold -/
def a39 : Ann := (.seq .leaf (.seq (.block (.loop [(.t 0, (.int .i64))] [] (.seq (.seq .leaf (.cond .leaf .leaf)) (.block .leaf)))) (.seq .leaf .leaf)))
/-- weir/weirref2.folded -/
def a40 : Ann := (.seq .leaf (.seq (.seq .leaf (.cond (.seq .leaf .leaf) .leaf)) (.seq .leaf .leaf)))
/-- weir/sum.version -/
def a41 : Ann := (.seq .leaf (.seq (.block (.seq .leaf (.cond (.seq .leaf .leaf) (.seq .leaf (.cond (.seq .leaf .leaf) .leaf))))) (.seq .leaf (.seq (.seq .leaf (.cond (.seq .leaf .leaf) .leaf)) (.seq .leaf .leaf)))))
/-- weir/weirref2.version -/
def a42 : Ann := (.seq .leaf (.seq (.seq .leaf (.cond (.seq .leaf .leaf) .leaf)) (.seq (.seq .leaf (.block (.loop [(.t 3, (.int .i64))] [0] (.seq (.seq .leaf (.cond .leaf .leaf)) (.seq (.block (.seq .leaf (.cond (.seq .leaf .leaf) .leaf))) .leaf))))) (.seq (.seq .leaf (.cond (.seq .leaf .leaf) .leaf)) (.seq .leaf .leaf)))))
/-- weir/weirref2.word -/
def a43 : Ann := (.seq .leaf (.seq .leaf .leaf))
/-- weir/sum.word -/
def a44 : Ann := (.seq .leaf (.seq .leaf (.seq (.seq .leaf (.cond .leaf .leaf)) (.seq .leaf .leaf))))
/-- weir/weirref2.at -/
def a45 : Ann := (.seq .leaf (.seq (.seq .leaf (.cond (.seq (.draw (.early 0 (.early 1 (.early 2 (.early 3 (.early 4 (.early 5 (.early 6 (.early 7 (.early 8 (.early 9 (.early 10 (.early 11 (.early 12 (.early 13 .done))))))))))))))) .leaf) .leaf)) (.seq .leaf .leaf)))
/-- weir/weirlaw2.Wide -/
def a46 : Ann := (.seq .leaf (.seq .leaf (.seq .leaf (.seq (.seq .leaf (.block (.loop [(.t 4, (.int .i64))] [] (.seq (.seq .leaf (.cond .leaf .leaf)) (.seq (.block .leaf) .leaf))))) (.seq .leaf .leaf)))))
/-- weir/weirlaw2.WideStands -/
def a47 : Ann := (.seq .leaf (.seq (.seq .leaf (.cond (.seq .leaf .leaf) .leaf)) (.seq .leaf (.seq (.seq .leaf (.block (.loop [(.t 6, (.int .i64))] [] (.seq (.seq .leaf (.cond .leaf .leaf)) (.cut [] [] (.block (.seq (.draw (.early 0 (.early 1 (.early 2 (.early 3 (.early 4 (.early 5 (.early 6 (.early 7 (.early 8 (.early 9 (.early 10 (.early 11 (.early 12 (.early 13 (.early 14 (.early 15 (.early 16 (.early 17 (.early 18 (.early 19 (.early 20 (.early 21 (.early 22 (.early 23 (.early 24 (.early 25 (.early 26 (.early 27 (.early 28 (.fork [(29, (.early 30 (.early 31 (.early 32 .done))))]))))))))))))))))))))))))))))))) (.cond (.seq .leaf .leaf) .leaf))) .leaf))))) (.seq .leaf .leaf)))))
/-- weir/weirlaw2.Place -/
def a48 : Ann := (.seq .leaf (.seq .leaf .leaf))
/-- weir/weirlaw2.full -/
def a49 : Ann := (.seq .leaf (.seq (.seq .leaf (.block (.loop [(.t 5, (.int .i64))] [] (.seq (.seq .leaf (.cond .leaf .leaf)) (.seq (.block (.seq .leaf (.cond (.seq .leaf .leaf) .leaf))) .leaf))))) (.seq .leaf .leaf)))
/-- weir/weirlaw2.behind -/
def a50 : Ann := (.seq .leaf (.seq .leaf .leaf))
end Go.Vc.S2
