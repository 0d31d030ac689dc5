import Derived.Test.YtkkdnnpnbmpifaaG2
import Derived.Below
import Derived.KernelRfl
section
open Go Go.Vc
namespace Go.Vc.S11
/-- gosem.cut.init -/
def a2 : Ann := .leaf
/-- weir/weirlaw11.HoleParts -/
def a3 : Ann := (.seq .leaf (.cut [(.t 0, (.int .i64))] [] (.seq .leaf (.cond .leaf .leaf)) (.seq .leaf (.cut [] [] (.seq .leaf (.cond (.seq .leaf .leaf) .leaf)) (.seq (.seq .leaf (.block (.loop [(.t 7, (.int .i64))] [] (.cut [] [] (.seq .leaf (.cond .leaf .leaf)) (.cut [] [] (.block (.seq (.draw (.early 0 (.early 1 (.early 2 (.early 3 (.early 4 (.early 5 (.early 6 (.early 7 (.early 8 (.early 9 (.early 10 (.early 12 (.early 13 (.early 14 (.early 15 (.early 16 (.fork [(11, (.fork [(17, .done)]))])))))))))))))))))) (.seq .leaf (.cut [(.t 8, (.int .i64))] [] (.seq .leaf (.cond .leaf .leaf)) (.seq .leaf (.seq .leaf (.seq .leaf (.seq (.seq .leaf (.block (.loop [(.t 11, (.int .i64)), (.t 12, (.int .i64)), (.t 13, (.int .i64))] [] (.seq (.seq .leaf (.cond .leaf .leaf)) (.cut [(.t 11, (.int .i64)), (.t 12, (.int .i64))] [] (.block (.cut [] [] (.seq (.draw (.early 0 (.early 1 (.early 2 (.early 3 (.early 4 (.early 5 (.early 6 (.early 7 (.early 8 (.early 9 (.early 10 (.early 11 (.early 12 (.early 13 (.early 14 (.early 15 (.early 16 (.early 17 (.early 18 (.early 19 (.early 20 (.early 21 (.early 22 (.early 23 (.early 24 (.early 25 (.early 26 (.early 27 (.early 28 .done)))))))))))))))))))))))))))))) (.cond (.seq .leaf .leaf) .leaf)) (.seq (.draw (.early 0 (.early 1 (.early 2 (.early 3 (.early 4 (.early 5 (.early 6 (.early 7 (.early 8 (.early 9 (.early 10 (.early 11 (.early 12 (.early 13 .done))))))))))))))) .leaf))) .leaf))))) (.seq .leaf (.cond (.seq .leaf .leaf) .leaf)))))))))) .leaf))))) (.seq .leaf .leaf))))))
/-- weir/weirlaw11.HolePieces -/
def a4 : Ann := (.seq .leaf (.seq .leaf (.cut [(.t 0, (.slice 5))] [] (.seq .leaf (.cond .leaf .leaf)) (.cut [(.t 1, (.slice 3))] [] (.seq .leaf (.cond .leaf .leaf)) (.seq .leaf (.seq .leaf (.cut [] [] (.seq .leaf (.cond (.seq .leaf .leaf) .leaf)) (.seq .leaf (.seq (.seq .leaf (.block (.loop [(.t 10, (.slice 4)), (.t 11, (.int .i64))] [] (.seq (.seq .leaf (.cond .leaf .leaf)) (.seq (.block .leaf) .leaf))))) (.seq .leaf (.seq (.seq .leaf (.block (.loop [(.t 12, (.int .i64)), (.t 13, (.int .i64))] [] (.cut [] [] (.seq .leaf (.cond .leaf .leaf)) (.cut [(.t 12, (.int .i64))] [] (.block (.seq .leaf (.cut [(.t 14, (.int .i64))] [] (.seq .leaf (.cond .leaf (.seq .leaf (.seq .leaf (.cond .leaf .leaf))))) (.seq (.draw (.early 0 (.early 1 (.early 2 (.early 3 (.early 4 (.early 5 (.early 6 (.early 7 (.early 8 (.early 9 (.early 10 (.early 11 (.early 12 (.early 13 (.early 14 (.early 15 (.fork [(16, (.early 17 (.early 18 (.early 19 (.fork [(20, (.fork [(21, (.early 22 .done))]))]))))), (20, (.fork [(16, (.early 17 (.early 18 (.early 19 (.fork [(21, (.early 22 .done))])))))]))])))))))))))))))))) (.cut [] [0] (.seq (.draw (.early 0 (.early 1 (.early 2 (.early 3 (.early 4 (.early 5 (.early 6 (.early 7 (.early 8 (.early 9 (.early 10 (.early 11 (.early 12 (.early 13 (.early 14 (.early 15 (.early 16 (.early 17 (.early 18 (.early 19 (.early 20 (.early 21 (.early 22 (.early 23 (.early 24 (.early 25 (.early 26 (.early 27 (.early 28 (.early 29 (.early 30 (.early 31 (.early 32 (.early 33 (.early 34 .done)))))))))))))))))))))))))))))))))))) (.cond (.seq .leaf .leaf) .leaf)) (.cut [(.t 12, (.int .i64))] [0] (.seq .leaf (.cond .leaf .leaf)) (.seq .leaf (.seq .leaf (.seq .leaf (.cond (.seq .leaf .leaf) .leaf)))))))))) .leaf))))) (.seq .leaf .leaf))))))))))))
/-- weir/weirlaw11.HolePlays -/
def a5 : Ann := (.seq .leaf (.seq .leaf (.cut [] [0] (.seq .leaf (.cond (.seq .leaf .leaf) .leaf)) (.seq .leaf (.seq (.seq .leaf (.cond (.seq .leaf .leaf) .leaf)) (.seq .leaf (.seq .leaf (.seq (.seq .leaf (.block (.loopF [3] [(.t 10, (.int .i64)), (.b 2, (.struct true [(.struct false [(.ptr 76), (.ptr 90)]), (.struct false [(.ptr 76), (.ptr 90)])]))] [0, 1] (.cut [] [0, 1, 2] (.seq .leaf (.cond .leaf .leaf)) (.cut [(.b 2, (.struct true [(.struct false [(.ptr 76), (.ptr 90)]), (.struct false [(.ptr 76), (.ptr 90)])]))] [0, 1] (.block (.seq .leaf (.seq .leaf (.cut [(.t 6, .bool), (.b 2, (.struct true [(.struct false [(.ptr 76), (.ptr 90)]), (.struct false [(.ptr 76), (.ptr 90)])]))] [0, 1, 4] (.seq .leaf (.block (.seq .leaf (.cond (.draw (.early 0 (.early 1 (.early 2 (.early 3 (.early 4 (.early 5 (.early 6 (.early 8 (.early 9 (.fork [(7, (.fork [(10, (.early 11 .done))]))]))))))))))) (.seq .leaf (.cond (.draw (.early 0 (.early 1 (.early 2 (.early 3 (.early 4 (.early 6 (.early 7 (.fork [(5, (.fork [(8, (.early 9 .done))]))]))))))))) (.seq .leaf (.cond (.draw (.early 0 (.early 1 (.early 2 (.early 3 (.early 4 (.early 5 (.fork [(6, (.early 7 (.early 8 (.early 9 (.early 10 (.fork [(11, (.early 12 .done))]))))))])))))))) (.draw (.early 0 (.early 1 (.early 2 (.early 3 (.early 4 (.early 5 (.fork [(6, (.early 7 .done))])))))))))))))))) (.seq .leaf (.cond (.seq .leaf .leaf) .leaf)))))) .leaf))))) (.seq .leaf .leaf)))))))))
/-- weir/weirlaw11.HoleFirst -/
def a6 : Ann := (.seq .leaf (.cut [(.t 0, (.int .i64))] [] (.seq .leaf (.cond .leaf .leaf)) (.seq .leaf (.cut [] [] (.seq .leaf (.cond (.seq .leaf .leaf) .leaf)) (.seq .leaf (.seq .leaf (.cut [(.t 7, (.slice 36)), (.t 8, (.int .i64))] [] (.seq .leaf (.block (.loop [(.t 7, (.slice 36)), (.t 8, (.int .i64)), (.t 9, (.int .i64))] [] (.cut [] [] (.seq .leaf (.cond .leaf .leaf)) (.cut [(.t 7, (.slice 36)), (.t 8, (.int .i64))] [] (.block (.seq .leaf (.seq .leaf (.seq .leaf (.seq .leaf (.seq (.seq .leaf (.cond (.seq (.seq .leaf (.cond (.seq .leaf .leaf) .leaf)) .leaf) .leaf)) (.cut [] [0, 1] (.seq (.draw (.early 0 (.early 1 (.early 2 (.early 3 (.early 4 (.early 5 (.early 6 (.early 7 (.early 8 (.early 9 (.early 10 (.early 12 (.early 13 (.early 14 (.early 15 (.fork [(11, (.early 16 (.early 17 (.early 18 (.early 19 (.early 20 (.early 21 (.early 22 (.early 23 .done)))))))))]))))))))))))))))) (.cond (.seq .leaf .leaf) .leaf)) (.seq .leaf (.cut [(.t 8, (.int .i64))] [0, 1] (.seq .leaf (.cond .leaf .leaf)) (.seq .leaf (.seq .leaf (.cond (.seq .leaf .leaf) .leaf)))))))))))) .leaf))))) (.seq (.seq .leaf (.cond (.seq .leaf (.seq .leaf (.seq .leaf .leaf))) .leaf)) (.seq .leaf (.seq (.seq .leaf (.cond (.seq .leaf .leaf) .leaf)) (.seq (.seq .leaf (.cond (.seq .leaf .leaf) .leaf)) (.seq (.seq .leaf (.block (.loop [(.t 23, (.int .i64))] [] (.seq (.seq .leaf (.cond .leaf .leaf)) (.cut [] [] (.block (.seq .leaf (.cut [(.t 24, (.int .i64))] [] (.block (.loop [(.t 24, (.int .i64))] [] (.cut [] [] (.seq (.draw (.early 0 (.early 1 (.early 2 (.early 3 (.early 4 (.early 5 (.early 6 (.early 7 (.early 8 (.early 9 (.early 10 (.early 11 (.early 12 (.early 13 (.early 14 (.early 15 (.early 16 (.early 17 (.early 18 (.early 19 (.early 20 (.early 21 (.early 22 (.early 23 (.early 24 (.early 25 (.early 26 (.early 27 (.early 28 .done)))))))))))))))))))))))))))))) (.cond .leaf .leaf)) (.block .leaf)))) (.seq (.draw (.early 0 (.early 1 (.early 2 (.early 3 (.early 4 (.early 5 (.early 6 (.early 7 (.early 8 (.early 9 (.early 10 (.early 11 (.early 12 (.early 13 (.early 14 (.early 15 (.early 16 (.early 17 (.early 18 (.early 19 (.early 20 (.early 21 (.early 22 (.early 23 (.early 24 .done)))))))))))))))))))))))))) (.cond (.seq .leaf .leaf) .leaf))))) .leaf))))) (.seq .leaf .leaf)))))))))))))
/-- weir/weirlaw11.HoleAgain -/
def a7 : Ann := (.seq .leaf (.seq .leaf (.seq (.seq .leaf (.cond (.seq .leaf .leaf) .leaf)) (.seq .leaf (.cut [] [0, 1] (.seq .leaf (.cond (.seq .leaf .leaf) .leaf)) (.cut [(.b 0, (.struct false [(.ptr 76), (.ptr 90)]))] [1] (.seq .leaf (.cond .leaf .leaf)) (.seq .leaf (.seq .leaf (.seq .leaf (.seq (.seq .leaf (.block (.loopF [3] [(.t 11, (.int .i64))] [0, 1, 2] (.cut [] [0, 1, 2] (.seq .leaf (.cond .leaf .leaf)) (.cut [] [0, 1, 2] (.block (.seq .leaf (.seq .leaf (.seq (.seq .leaf (.cond (.seq (.seq .leaf (.cond (.seq .leaf .leaf) .leaf)) .leaf) .leaf)) (.seq .leaf (.seq (.draw (.early 0 (.early 1 (.early 2 (.early 3 (.early 4 (.early 5 (.early 7 (.early 8 (.fork [(6, (.fork [(9, (.early 10 (.early 11 (.early 12 (.fork [(13, (.fork [(14, (.early 15 .done))]))]))))), (13, (.fork [(9, (.early 10 (.early 11 (.early 12 (.fork [(14, (.early 15 .done))])))))]))])), (13, (.fork [(6, (.fork [(9, (.early 10 (.early 11 (.early 12 (.fork [(14, (.early 15 .done))])))))]))]))])))))))))) (.seq .leaf (.seq .leaf (.cond (.seq .leaf .leaf) .leaf))))))))) .leaf))))) (.seq .leaf .leaf)))))))))))
/-- weir/weirlaw11.HoleLent -/
def a8 : Ann := (.seq .leaf (.cut [(.t 0, (.int .i64))] [] (.seq .leaf (.cond .leaf .leaf)) (.seq .leaf (.seq .leaf (.cut [] [0, 1] (.seq .leaf (.cond (.seq .leaf .leaf) .leaf)) (.cut [] [0, 1] (.seq .leaf (.block (.loop [(.t 9, (.int .i64))] [0, 1] (.cut [] [0, 1] (.seq .leaf (.cond .leaf .leaf)) (.seq (.block (.seq (.draw (.early 0 (.early 1 (.early 2 (.early 3 (.early 4 (.early 5 (.early 6 (.early 7 (.early 8 (.early 9 (.early 10 (.early 12 (.early 13 (.early 14 (.early 15 (.early 16 (.fork [(11, (.fork [(17, (.early 18 .done))]))])))))))))))))))))) (.cond (.seq .leaf .leaf) .leaf))) .leaf))))) (.seq .leaf (.seq .leaf (.seq (.seq .leaf (.block (.loop [(.t 10, (.slice 34)), (.t 11, (.slice 27)), (.t 12, (.int .i64))] [0, 1] (.seq (.seq .leaf (.cond .leaf .leaf)) (.cut [(.t 10, (.slice 34)), (.t 11, (.slice 27))] [0, 1] (.block (.seq .leaf (.seq .leaf (.seq .leaf (.seq .leaf (.seq .leaf (.cut [] [0, 1] (.seq .leaf (.cond (.seq .leaf .leaf) .leaf)) (.seq .leaf .leaf)))))))) .leaf))))) (.seq (.seq .leaf (.cond (.seq .leaf .leaf) .leaf)) (.seq .leaf (.seq (.seq .leaf (.block (.loop [(.t 23, (.int .i64))] [0, 1] (.seq (.seq .leaf (.cond .leaf .leaf)) (.seq (.block (.seq .leaf (.block (.loop [(.t 24, (.int .i64))] [0, 1] (.seq (.seq .leaf (.cond .leaf .leaf)) (.seq (.block .leaf) .leaf)))))) .leaf))))) (.seq (.seq .leaf (.block (.loop [(.t 22, (.slice 27)), (.t 25, (.int .i64))] [0, 1] (.seq (.seq .leaf (.cond .leaf .leaf)) (.seq (.block (.seq .leaf (.seq (.seq .leaf (.block (.loop [(.t 26, (.slice 29)), (.t 27, (.int .i64))] [0, 1] (.seq (.seq .leaf (.cond .leaf .leaf)) (.seq (.block .leaf) .leaf))))) .leaf))) .leaf))))) (.seq (.seq .leaf (.block (.loop [(.t 28, (.int .i64))] [0, 1] (.seq (.seq .leaf (.cond .leaf .leaf)) (.seq (.block (.seq .leaf (.block (.loop [(.t 29, (.int .i64))] [0, 1] (.seq (.seq .leaf (.cond .leaf .leaf)) (.cut [] [0, 1] (.block (.seq .leaf (.cond (.seq .leaf .leaf) .leaf))) .leaf)))))) .leaf))))) (.seq .leaf (.seq .leaf .leaf))))))))))))))))
/-- weir/weirlaw11.HoleMany -/
def a9 : Ann := (.seq .leaf (.seq .leaf (.seq .leaf (.seq .leaf (.seq (.seq .leaf (.block (.loop [(.t 6, (.int .i64))] [] (.seq (.seq .leaf (.cond .leaf .leaf)) (.seq (.block .leaf) .leaf))))) (.seq .leaf (.cut [] [] (.seq .leaf (.cond (.seq .leaf .leaf) .leaf)) (.seq .leaf (.seq .leaf (.seq (.seq .leaf (.block (.loop [(.t 10, (.int .i64)), (.t 11, (.int .i64))] [] (.seq (.seq .leaf (.cond .leaf .leaf)) (.cut [(.t 10, (.int .i64))] [] (.block (.cut [] [] (.seq .leaf (.cond (.seq .leaf .leaf) .leaf)) (.seq .leaf (.cut [(.t 12, (.int .i64))] [] (.seq .leaf (.cond .leaf .leaf)) (.seq (.seq .leaf (.cond .leaf .leaf)) (.seq .leaf (.seq .leaf (.seq .leaf (.seq .leaf (.cond (.seq .leaf .leaf) .leaf)))))))))) .leaf))))) (.seq .leaf (.seq .leaf (.seq .leaf (.seq .leaf .leaf))))))))))))))
/-- weir/hole.New -/
def a10 : Ann := (.seq .leaf (.cut [] [] (.seq .leaf (.cond (.seq .leaf .leaf) .leaf)) (.seq .leaf .leaf)))
/-- (*weir/hole.Holes).Gaps -/
def a11 : Ann := (.seq .leaf (.seq .leaf .leaf))
/-- (*weir/hole.Holes).Put -/
def a12 : Ann := (.seq .leaf (.seq (.seq .leaf (.seq .leaf (.cond (.seq .leaf .leaf) .leaf))) (.seq .leaf (.cut [] [0] (.seq .leaf (.cond (.draw (.early 0 (.early 1 (.early 2 (.early 3 (.early 4 (.early 5 (.early 6 (.early 7 (.early 8 (.early 9 (.early 10 (.early 11 (.fork [(12, (.early 13 (.early 14 (.fork [(15, .done)]))))])))))))))))))) .leaf)) (.seq .leaf (.seq .leaf (.seq .leaf (.cut [(.t 13, (.slice 29)), (.b 1, (.struct false [(.int .i64), (.int .i64), .bool]))] [0] (.seq .leaf (.block (.loop [(.t 13, (.slice 29)), (.t 62, (.int .i64)), (.b 1, (.struct false [(.int .i64), (.int .i64), .bool]))] [0] (.seq .leaf (.seq (.cond .leaf .leaf) (.seq (.block (.seq .leaf (.seq (.seq .leaf (.cond (.seq .leaf .leaf) .leaf)) (.seq (.seq .leaf (.cond (.seq .leaf .leaf) .leaf)) (.seq (.draw (.early 0 (.early 1 (.early 2 (.early 3 (.early 4 (.early 5 (.early 6 (.early 7 (.early 8 (.early 9 .done))))))))))) (.seq (.draw (.early 0 (.early 1 (.early 2 (.early 3 (.early 4 (.early 5 (.early 6 (.early 7 (.early 8 (.early 9 (.early 10 (.early 11 (.early 12 (.early 13 (.early 14 (.early 15 (.early 16 (.fork [(17, (.early 18 (.early 19 (.fork [(20, .done)]))))]))))))))))))))))))) (.cut [(.t 13, (.slice 29))] [0, 1, 2] (.seq .leaf (.cond .leaf .leaf)) (.seq .leaf (.cond .leaf .leaf))))))))) .leaf)))))) (.seq .leaf (.cut [] [0, 1] (.seq .leaf (.cond (.seq .leaf (.seq .leaf (.seq (.draw (.early 0 (.early 1 (.early 2 (.early 3 (.early 4 (.early 5 (.early 6 (.early 7 (.early 8 (.early 9 (.early 10 (.early 11 (.early 12 (.early 13 (.early 14 (.early 15 (.early 16 (.early 17 .done))))))))))))))))))) (.cond (.seq .leaf (.seq .leaf (.cond .leaf .leaf))) .leaf)))) .leaf)) (.seq (.draw (.early 0 (.early 1 (.early 2 (.early 3 (.early 4 (.early 5 (.early 6 (.early 7 (.early 8 (.fork [(9, .done)]))))))))))) (.seq .leaf (.seq .leaf (.seq (.draw (.early 0 (.early 1 (.early 2 (.early 3 (.early 4 (.fork [(5, (.early 6 (.early 7 (.early 8 (.fork [(9, (.fork [(10, (.early 11 .done))]))]))))), (9, (.fork [(5, (.early 6 (.early 7 (.early 8 (.fork [(10, (.early 11 .done))])))))]))]))))))) (.seq .leaf (.seq (.draw (.early 0 (.early 1 (.early 2 (.early 3 (.early 4 (.early 5 (.fork [(6, .done)])))))))) (.seq .leaf .leaf)))))))))))))))))
/-- weir/weirlaw11.cut -/
def a13 : Ann := (.seq .leaf (.cut [(.t 0, (.slice 5))] [] (.seq .leaf (.cond .leaf .leaf)) (.seq .leaf (.seq .leaf .leaf))))
/-- (*weir/hole.Holes).Total -/
def a14 : Ann := (.seq .leaf (.seq (.draw (.early 0 (.early 1 (.early 2 (.early 3 (.early 4 (.early 5 (.early 6 (.early 7 (.early 8 (.early 9 (.early 10 (.early 11 .done))))))))))))) .leaf))
/-- (*weir/hole.Holes).Held -/
def a15 : Ann := (.seq .leaf (.seq .leaf .leaf))
/-- (*weir/hole.Holes).Whole -/
def a16 : Ann := (.seq .leaf (.seq .leaf .leaf))
/-- weir/weirlaw11.parts -/
def a17 : Ann := (.seq .leaf (.seq .leaf (.seq .leaf (.seq (.seq .leaf (.block (.loop [(.t 5, (.slice 36)), (.t 6, (.int .i64)), (.t 7, (.int .i64))] [] (.cut [] [] (.seq .leaf (.cond .leaf .leaf)) (.cut [(.t 5, (.slice 36)), (.t 6, (.int .i64))] [] (.block (.seq .leaf (.cut [(.t 8, (.int .i64))] [] (.seq .leaf (.cond (.seq .leaf (.seq .leaf (.cond .leaf .leaf))) .leaf)) (.seq .leaf .leaf)))) .leaf))))) (.seq .leaf .leaf)))))
/-- (*weir/hole.Holes).Bytes -/
def a18 : Ann := (.seq .leaf (.seq (.seq .leaf (.cond (.seq .leaf .leaf) .leaf)) (.seq (.draw (.early 0 (.early 1 (.early 2 (.early 3 (.early 4 (.early 5 (.early 6 (.early 7 (.early 8 (.fork [(9, (.early 10 (.early 11 .done)))]))))))))))) .leaf)))
/-- weir/weirlaw11.same -/
def a19 : Ann := (.seq .leaf (.seq (.seq .leaf (.cond (.seq .leaf .leaf) .leaf)) (.seq (.seq .leaf (.block (.loop [(.t 5, (.int .i64))] [] (.seq (.seq .leaf (.cond .leaf .leaf)) (.seq (.block (.seq (.draw (.early 0 (.early 1 (.early 2 (.early 3 (.early 4 (.early 5 (.early 6 (.early 7 (.early 8 .done)))))))))) (.cond (.seq .leaf .leaf) .leaf))) .leaf))))) (.seq .leaf .leaf))))
/-- weir/weirlaw11.made -/
def a20 : Ann := (.seq .leaf (.seq .leaf (.seq .leaf (.cut [(.b 1, (.struct false [(.ptr 76), (.ptr 90)]))] [0] (.seq .leaf (.cond (.seq .leaf .leaf) .leaf)) (.seq (.seq .leaf (.cond (.seq .leaf .leaf) .leaf)) (.seq .leaf .leaf))))))
/-- weir/weirlaw11.put -/
def a21 : Ann := (.seq .leaf (.seq .leaf (.seq (.draw (.early 0 (.early 1 (.early 2 (.early 3 (.early 4 (.early 5 (.early 6 (.early 7 (.fork [(8, (.early 9 (.early 10 (.early 11 (.fork [(12, (.fork [(13, (.early 14 .done))]))]))))), (12, (.fork [(8, (.early 9 (.early 10 (.early 11 (.fork [(13, (.early 14 .done))])))))]))])))))))))) (.seq .leaf (.cut [] [0, 1, 2] (.seq .leaf (.cond (.seq .leaf .leaf) .leaf)) (.seq (.seq .leaf (.block (.loop [(.t 14, (.int .i64))] [0, 1, 2] (.seq (.seq .leaf (.cond .leaf .leaf)) (.seq (.block .leaf) .leaf))))) (.seq .leaf .leaf)))))))
/-- weir/weirlaw11.asked -/
def a22 : Ann := (.seq .leaf (.seq (.seq .leaf (.block (.seq .leaf (.cond (.seq .leaf (.seq (.seq .leaf (.cond (.seq .leaf .leaf) .leaf)) .leaf)) (.seq .leaf (.cond (.seq .leaf (.seq .leaf (.seq (.draw (.early 0 (.early 1 (.early 2 (.early 3 (.early 4 (.early 5 (.early 6 (.early 7 (.early 8 (.early 9 (.early 10 (.early 12 (.early 13 (.fork [(11, (.fork [(14, (.early 15 (.early 16 (.early 17 (.early 18 (.early 19 (.early 21 (.early 22 (.fork [(20, (.fork [(23, (.early 24 (.early 25 (.early 26 .done))))]))])))))))))]))]))))))))))))))) .leaf))) (.seq .leaf (.cond (.seq .leaf (.seq .leaf (.cut [] [0] (.seq .leaf (.cond (.seq .leaf .leaf) .leaf)) .leaf))) .leaf)))))))) (.seq .leaf .leaf)))
/-- (*weir/weirlaw11.Book).whole -/
def a23 : Ann := (.seq .leaf (.seq (.seq .leaf (.block (.loop [(.t 3, (.int .i64))] [] (.seq (.seq .leaf (.cond .leaf .leaf)) (.seq (.block (.seq .leaf (.block (.loop [(.t 4, (.int .i64))] [] (.seq (.seq .leaf (.cond .leaf .leaf)) (.seq (.block (.seq (.draw (.early 0 (.early 1 (.early 2 (.early 3 (.early 4 (.early 5 (.early 6 (.early 7 (.early 8 (.early 9 (.early 10 (.early 11 (.early 12 (.early 13 (.early 14 (.early 15 (.early 16 (.early 17 .done))))))))))))))))))) (.cond (.seq .leaf .leaf) .leaf))) .leaf)))))) .leaf))))) (.seq (.seq .leaf (.block (.loop [(.t 5, (.int .i64))] [] (.seq (.seq .leaf (.cond .leaf .leaf)) (.seq (.block (.seq .leaf (.block (.loop [(.t 6, (.int .i64))] [] (.seq (.seq .leaf (.cond .leaf .leaf)) (.seq (.block (.seq (.draw (.early 0 (.early 1 (.early 2 (.early 3 (.early 4 (.early 5 (.early 6 (.early 7 (.early 8 (.early 9 (.early 10 (.early 11 (.early 12 (.early 13 (.early 14 (.early 15 (.early 16 (.early 17 (.early 18 (.early 19 (.early 20 (.early 21 (.early 22 (.early 23 (.early 24 (.early 25 .done))))))))))))))))))))))))))) (.cond (.seq .leaf .leaf) .leaf))) .leaf)))))) .leaf))))) (.seq .leaf .leaf))))
/-- weir/weirlaw11.sameGaps -/
def a24 : Ann := (.seq .leaf (.seq (.seq .leaf (.cond (.seq .leaf .leaf) .leaf)) (.seq (.seq .leaf (.block (.loop [(.t 5, (.int .i64))] [] (.seq (.seq .leaf (.cond .leaf .leaf)) (.seq (.block (.seq (.draw (.early 0 (.early 1 (.early 2 (.early 3 (.early 4 (.early 5 (.early 6 (.early 7 (.early 8 .done)))))))))) (.cond (.seq .leaf .leaf) .leaf))) .leaf))))) (.seq .leaf .leaf))))
/-- weir/weirlaw11.lay -/
def a25 : Ann := (.seq .leaf (.seq .leaf (.seq (.seq .leaf (.block (.loop [(.t 5, (.int .i64))] [] (.seq (.seq .leaf (.cond .leaf .leaf)) (.seq (.block .leaf) .leaf))))) (.seq .leaf .leaf))))
/-- (*weir/weirref11.Holes).Put -/
def a26 : Ann := (.seq .leaf (.seq .leaf (.seq .leaf (.seq (.seq .leaf (.cond (.seq .leaf .leaf) .leaf)) (.seq (.block (.loop [] [0] (.seq (.seq .leaf (.cond .leaf .leaf)) (.block (.seq .leaf .leaf))))) (.seq .leaf (.seq .leaf (.seq (.seq .leaf (.block (.loop [(.t 13, .bool), (.t 14, (.int .i64)), (.b 1, (.struct false [(.int .i64), (.int .i64), .bool]))] [0] (.seq (.seq .leaf (.cond .leaf .leaf)) (.cut [(.t 13, .bool), (.b 1, (.struct false [(.int .i64), (.int .i64), .bool]))] [0] (.block (.seq .leaf (.cond (.seq .leaf (.draw (.early 0 (.early 1 (.early 2 (.early 3 (.early 4 (.early 5 (.early 6 (.early 7 (.early 8 (.early 9 (.early 10 (.early 11 (.early 12 (.early 13 (.early 14 (.early 15 (.early 16 (.early 17 .done)))))))))))))))))))) (.seq .leaf (.seq .leaf (.draw (.early 0 (.early 1 (.early 2 (.early 3 (.early 4 (.early 5 (.early 6 (.early 7 (.early 8 (.early 9 (.early 10 (.early 11 (.fork [(12, .done)]))))))))))))))))))) .leaf))))) (.seq (.seq .leaf (.block (.loop [(.t 15, (.int .i64)), (.b 1, (.struct false [(.int .i64), (.int .i64), .bool]))] [0] (.seq (.seq .leaf (.cond .leaf .leaf)) (.cut [(.b 1, (.struct false [(.int .i64), (.int .i64), .bool]))] [0] (.block (.seq .leaf (.seq .leaf (.cond .leaf .leaf)))) .leaf))))) (.seq .leaf (.cut [] [0, 1] (.seq .leaf (.cond .leaf .leaf)) (.seq .leaf .leaf))))))))))))
/-- weir/weirlaw11.lies -/
def a27 : Ann := (.seq .leaf (.seq (.seq .leaf (.cond (.seq .leaf .leaf) .leaf)) (.seq (.seq .leaf (.block (.loop [(.t 5, (.int .i64))] [] (.seq (.seq .leaf (.cond .leaf .leaf)) (.seq (.block (.seq .leaf (.cond (.seq .leaf .leaf) .leaf))) .leaf))))) (.seq .leaf .leaf))))
/-- (*weir/weirref11.Holes).Bytes -/
def a28 : Ann := (.seq .leaf (.seq (.seq .leaf (.cond (.seq .leaf .leaf) .leaf)) (.seq .leaf (.seq .leaf .leaf))))
/-- (*weir/weirref11.Holes).Gaps -/
def a29 : Ann := (.seq .leaf (.seq .leaf (.seq (.seq .leaf (.block (.loop [(.t 3, (.slice 29)), (.t 4, (.int .i64))] [] (.seq (.seq .leaf (.cond .leaf .leaf)) (.cut [(.t 3, (.slice 29))] [] (.block (.block (.seq .leaf (.cond .leaf (.seq .leaf (.cond .leaf .leaf)))))) .leaf))))) (.seq .leaf .leaf))))
/-- weir/weirlaw2.Apart -/
def a30 : Ann := (.seq .leaf (.seq .leaf (.seq (.seq .leaf (.block (.loop [(.t 3, (.int .i64)), (.t 4, (.int .i64))] [] (.seq (.seq .leaf (.cond .leaf .leaf)) (.seq (.block (.seq .leaf (.seq .leaf (.block (.loop [(.t 5, (.int .i64))] [] (.seq (.seq .leaf (.cond .leaf .leaf)) (.seq (.block .leaf) .leaf))))))) .leaf))))) (.seq .leaf (.seq (.seq .leaf (.block (.loop [(.t 6, (.slice 34)), (.t 7, (.int .i64))] [] (.seq (.seq .leaf (.cond .leaf .leaf)) (.seq (.block (.seq .leaf (.seq (.seq .leaf (.block (.loop [(.t 8, (.slice 5)), (.t 9, (.int .i64))] [] (.seq (.seq .leaf (.cond .leaf .leaf)) (.seq (.block .leaf) .leaf))))) .leaf))) .leaf))))) (.seq (.seq .leaf (.block (.loop [(.t 10, (.int .i64))] [] (.seq (.seq .leaf (.cond .leaf .leaf)) (.cut [] [] (.block (.seq (.draw (.early 0 (.early 1 (.early 2 (.early 3 (.early 4 (.early 5 (.early 6 (.early 7 (.fork [(8, (.early 9 (.early 10 (.early 11 (.early 12 (.early 13 (.early 14 (.early 15 (.early 16 (.early 17 (.early 18 (.fork [(19, (.early 20 (.early 21 (.early 22 (.early 23 (.early 24 (.early 25 (.early 26 (.early 27 (.early 28 (.early 29 (.early 30 (.early 31 (.early 32 (.early 33 (.early 34 (.early 35 (.early 36 .done))))))))))))))))))]))))))))))))])))))))))) (.cond (.seq .leaf .leaf) .leaf))) .leaf))))) (.seq .leaf .leaf)))))))
/-- slices.Clone[[][2]int,[2]int] -/
def a31 : Ann := (.seq .leaf (.seq (.seq .leaf (.cond (.seq .leaf .leaf) .leaf)) (.seq .leaf .leaf)))
/-- (*weir/hole.Holes).refused -/
def a32 : Ann := (.seq .leaf (.seq .leaf (.seq (.block (.seq .leaf (.cond (.seq .leaf .leaf) (.cut [(.t 15, .bool)] [] .leaf (.cond (.seq .leaf .leaf) (.seq .leaf (.cond (.seq .leaf .leaf) (.seq .leaf (.cond (.seq .leaf .leaf) (.cut [(.t 51, .bool)] [] .leaf (.cond (.seq .leaf .leaf) (.cut [(.t 71, .bool)] [] .leaf (.cond (.seq .leaf .leaf) (.seq .leaf (.cond (.seq .leaf .leaf) .leaf))))))))))))))) (.seq .leaf .leaf))))
/-- bytes.Equal -/
def a33 : Ann := (.seq .leaf (.seq .leaf .leaf))
/-- slices.Clone[[]byte,byte] -/
def a34 : Ann := (.seq .leaf (.seq (.seq .leaf (.cond (.seq .leaf .leaf) .leaf)) (.seq .leaf .leaf)))
/-- weir/weirref11.New -/
def a35 : Ann := (.seq .leaf (.cut [] [] (.seq .leaf (.cond (.seq .leaf .leaf) .leaf)) (.seq .leaf .leaf)))
/-- (*weir/weirlaw11.Book).gaps -/
def a36 : Ann := (.seq .leaf (.seq .leaf (.seq (.seq .leaf (.block (.loop [(.t 6, (.int .i64))] [0] (.seq (.seq .leaf (.cond .leaf .leaf)) (.seq (.block .leaf) .leaf))))) (.seq (.draw (.early 0 (.early 1 (.early 2 (.early 3 (.early 4 (.early 5 (.early 6 (.early 7 (.early 10 (.early 11 (.early 12 (.early 15 (.early 16 (.early 17 (.early 18 (.fork [(8, (.fork [(9, (.fork [(13, (.fork [(14, (.fork [(19, (.fork [(20, (.fork [(21, (.fork [(22, (.early 23 (.early 24 (.fork [(25, .done)]))))]))]))]))])), (19, (.fork [(14, (.fork [(20, (.fork [(21, (.fork [(22, (.early 23 (.early 24 (.fork [(25, .done)]))))]))]))]))]))])), (19, (.fork [(13, (.fork [(14, (.fork [(20, (.fork [(21, (.fork [(22, (.early 23 (.early 24 (.fork [(25, .done)]))))]))]))]))]))]))])), (13, (.fork [(9, (.fork [(14, (.fork [(19, (.fork [(20, (.fork [(21, (.fork [(22, (.early 23 (.early 24 (.fork [(25, .done)]))))]))]))]))])), (19, (.fork [(14, (.fork [(20, (.fork [(21, (.fork [(22, (.early 23 (.early 24 (.fork [(25, .done)]))))]))]))]))]))])), (19, (.fork [(9, (.fork [(14, (.fork [(20, (.fork [(21, (.fork [(22, (.early 23 (.early 24 (.fork [(25, .done)]))))]))]))]))]))]))])), (19, (.fork [(9, (.fork [(13, (.fork [(14, (.fork [(20, (.fork [(21, (.fork [(22, (.early 23 (.early 24 (.fork [(25, .done)]))))]))]))]))]))])), (13, (.fork [(9, (.fork [(14, (.fork [(20, (.fork [(21, (.fork [(22, (.early 23 (.early 24 (.fork [(25, .done)]))))]))]))]))]))]))]))])), (13, (.fork [(8, (.fork [(9, (.fork [(14, (.fork [(19, (.fork [(20, (.fork [(21, (.fork [(22, (.early 23 (.early 24 (.fork [(25, .done)]))))]))]))]))])), (19, (.fork [(14, (.fork [(20, (.fork [(21, (.fork [(22, (.early 23 (.early 24 (.fork [(25, .done)]))))]))]))]))]))])), (19, (.fork [(9, (.fork [(14, (.fork [(20, (.fork [(21, (.fork [(22, (.early 23 (.early 24 (.fork [(25, .done)]))))]))]))]))]))]))])), (19, (.fork [(8, (.fork [(9, (.fork [(14, (.fork [(20, (.fork [(21, (.fork [(22, (.early 23 (.early 24 (.fork [(25, .done)]))))]))]))]))]))]))]))])), (19, (.fork [(8, (.fork [(9, (.fork [(13, (.fork [(14, (.fork [(20, (.fork [(21, (.fork [(22, (.early 23 (.early 24 (.fork [(25, .done)]))))]))]))]))]))])), (13, (.fork [(9, (.fork [(14, (.fork [(20, (.fork [(21, (.fork [(22, (.early 23 (.early 24 (.fork [(25, .done)]))))]))]))]))]))]))])), (13, (.fork [(8, (.fork [(9, (.fork [(14, (.fork [(20, (.fork [(21, (.fork [(22, (.early 23 (.early 24 (.fork [(25, .done)]))))]))]))]))]))]))]))]))]))))))))))))))))) .leaf))))
/-- (*weir/weirref11.Holes).Total -/
def a37 : Ann := (.seq .leaf (.seq (.seq .leaf (.cond (.seq .leaf .leaf) .leaf)) (.seq .leaf .leaf)))
/-- (*weir/weirref11.Holes).Whole -/
def a38 : Ann := (.seq .leaf (.seq (.draw (.early 0 (.early 1 (.early 2 (.early 3 (.early 4 (.early 5 (.early 6 (.early 8 (.early 9 (.early 10 (.early 11 (.fork [(7, (.early 12 (.early 13 (.early 14 .done))))]))))))))))))) .leaf))
/-- (*weir/weirref11.Holes).Held -/
def a39 : Ann := (.seq .leaf (.seq .leaf (.seq (.seq .leaf (.block (.loop [(.t 3, (.int .i64)), (.t 4, (.int .i64))] [] (.seq (.seq .leaf (.cond .leaf .leaf)) (.cut [(.t 3, (.int .i64))] [] (.block (.seq .leaf (.cond .leaf .leaf))) .leaf))))) (.seq .leaf .leaf))))
/-- (*weir/weirlaw11.Book).bytes -/
def a40 : Ann := (.seq .leaf (.seq (.seq .leaf (.block (.loop [(.t 5, (.int .i64))] [] (.seq (.seq .leaf (.cond .leaf .leaf)) (.seq (.block .leaf) .leaf))))) (.seq (.draw (.early 0 (.early 1 (.early 2 (.early 3 (.early 4 (.early 5 (.early 6 (.early 7 (.early 10 (.early 11 (.early 12 (.early 15 (.early 16 (.early 17 (.early 18 (.fork [(8, (.fork [(9, (.fork [(13, (.fork [(14, (.fork [(19, (.fork [(20, (.fork [(21, (.fork [(22, (.early 23 (.early 24 (.fork [(25, .done)]))))]))]))]))])), (19, (.fork [(14, (.fork [(20, (.fork [(21, (.fork [(22, (.early 23 (.early 24 (.fork [(25, .done)]))))]))]))]))]))])), (19, (.fork [(13, (.fork [(14, (.fork [(20, (.fork [(21, (.fork [(22, (.early 23 (.early 24 (.fork [(25, .done)]))))]))]))]))]))]))])), (13, (.fork [(9, (.fork [(14, (.fork [(19, (.fork [(20, (.fork [(21, (.fork [(22, (.early 23 (.early 24 (.fork [(25, .done)]))))]))]))]))])), (19, (.fork [(14, (.fork [(20, (.fork [(21, (.fork [(22, (.early 23 (.early 24 (.fork [(25, .done)]))))]))]))]))]))])), (19, (.fork [(9, (.fork [(14, (.fork [(20, (.fork [(21, (.fork [(22, (.early 23 (.early 24 (.fork [(25, .done)]))))]))]))]))]))]))])), (19, (.fork [(9, (.fork [(13, (.fork [(14, (.fork [(20, (.fork [(21, (.fork [(22, (.early 23 (.early 24 (.fork [(25, .done)]))))]))]))]))]))])), (13, (.fork [(9, (.fork [(14, (.fork [(20, (.fork [(21, (.fork [(22, (.early 23 (.early 24 (.fork [(25, .done)]))))]))]))]))]))]))]))])), (13, (.fork [(8, (.fork [(9, (.fork [(14, (.fork [(19, (.fork [(20, (.fork [(21, (.fork [(22, (.early 23 (.early 24 (.fork [(25, .done)]))))]))]))]))])), (19, (.fork [(14, (.fork [(20, (.fork [(21, (.fork [(22, (.early 23 (.early 24 (.fork [(25, .done)]))))]))]))]))]))])), (19, (.fork [(9, (.fork [(14, (.fork [(20, (.fork [(21, (.fork [(22, (.early 23 (.early 24 (.fork [(25, .done)]))))]))]))]))]))]))])), (19, (.fork [(8, (.fork [(9, (.fork [(14, (.fork [(20, (.fork [(21, (.fork [(22, (.early 23 (.early 24 (.fork [(25, .done)]))))]))]))]))]))]))]))])), (19, (.fork [(8, (.fork [(9, (.fork [(13, (.fork [(14, (.fork [(20, (.fork [(21, (.fork [(22, (.early 23 (.early 24 (.fork [(25, .done)]))))]))]))]))]))])), (13, (.fork [(9, (.fork [(14, (.fork [(20, (.fork [(21, (.fork [(22, (.early 23 (.early 24 (.fork [(25, .done)]))))]))]))]))]))]))])), (13, (.fork [(8, (.fork [(9, (.fork [(14, (.fork [(20, (.fork [(21, (.fork [(22, (.early 23 (.early 24 (.fork [(25, .done)]))))]))]))]))]))]))]))]))]))))))))))))))))) .leaf)))
/-- (*weir/weirref11.Holes).refused -/
def a41 : Ann := (.seq .leaf (.seq (.seq .leaf (.cond (.seq .leaf .leaf) .leaf)) (.cut [] [] (.seq .leaf (.cond (.seq .leaf .leaf) .leaf)) (.seq (.seq .leaf (.cond (.seq .leaf .leaf) .leaf)) (.cut [] [] (.seq .leaf (.cond (.seq .leaf .leaf) .leaf)) (.seq (.block (.cut [(.t 44, .bool)] [] .leaf (.cond (.seq .leaf .leaf) (.cut [(.t 64, .bool)] [] .leaf (.cond (.seq .leaf .leaf) (.seq .leaf (.cond (.seq .leaf .leaf) .leaf))))))) (.seq .leaf .leaf)))))))
/-- (*weir/weirref11.Holes).bound -/
def a42 : Ann := (.seq .leaf (.seq (.seq .leaf (.cond (.seq .leaf .leaf) .leaf)) (.seq .leaf .leaf)))
/-- (*weir/weirref11.Holes).held -/
def a43 : Ann := (.seq .leaf (.seq .leaf .leaf))
/-- weir/weirlaw2.full -/
def a44 : Ann := (.seq .leaf (.seq (.seq .leaf (.block (.loop [(.t 5, (.int .i64))] [] (.seq (.seq .leaf (.cond .leaf .leaf)) (.seq (.block (.seq .leaf (.cond (.seq .leaf .leaf) .leaf))) .leaf))))) (.seq .leaf .leaf)))
/-- (*weir/hole.Holes).top -/
def a45 : Ann := (.seq .leaf (.seq .leaf (.seq (.seq .leaf (.cond (.seq .leaf .leaf) .leaf)) (.seq (.seq .leaf (.seq (.draw (.early 0 (.early 1 (.early 2 (.early 3 (.early 4 (.early 5 (.early 6 .done)))))))) (.cond (.seq .leaf .leaf) .leaf))) (.seq .leaf .leaf)))))
end Go.Vc.S11
end

section
namespace Go.Vc
open Go.RowKit (Below)
set_option linter.unusedVariables false
set_option linter.unusedSimpArgs false
set_option autoImplicit false

/-! ### frames -/
theorem Upd.below {m n : List Nat} {w w1 : World} (h : Upd m n w w1) (hm : ∀ b ∈ m, w.heap.size ≤ b) : Below w.heap.size w w1 :=
  ⟨h.os, h.tape, h.output, h.size, fun k hk => h.keep k hk (fun e => by have := hm k e; omega)⟩
theorem Upd.ofBelow {w w1 : World} (h : Below w.heap.size w w1) : Upd [] [] w w1 := ⟨h.os, h.tape, h.output, h.size, fun k hk _ => h.block k hk, by simp⟩
/-- nothing old is written: w is what it was, but for blocks from w0's size on -/
theorem Upd.step {m n m' n' : List Nat} {w0 w w1 : World} (h : Upd m n w0 w) (k : Upd m' n' w w1) (hm : ∀ b ∈ m', w0.heap.size ≤ b ∨ b ∈ m) : Upd m [] w0 w1 where
  os := k.os.trans h.os
  tape := k.tape.trans h.tape
  output := k.output.trans h.output
  size := Nat.le_trans h.size k.size
  keep b hb hn := by
    have h1 := h.size
    rw [k.keep b (by omega) (fun e => by rcases hm b e with h | h; omega; exact hn h), h.keep b hb hn]
  news := by simp
theorem Upd.step0 {n m' n' : List Nat} {w0 w w1 : World} (h : Upd [] n w0 w) (k : Upd m' n' w w1) (hm : ∀ b ∈ m', w0.heap.size ≤ b) : Upd [] [] w0 w1 :=
  h.step k (fun b hb => .inl (hm b hb))
theorem Upd.then {n n' : List Nat} {w0 w w1 : World} (h : Upd [] n w0 w) (k : Upd [] n' w w1) : Upd [] [] w0 w1 := h.step k (by simp)
theorem Upd.forget {m n : List Nat} {w w1 : World} (h : Upd m n w w1) : Upd m [] w w1 := h.mono (fun _ h => h) (by simp)
theorem Upd.wide {m m' n : List Nat} {w w1 : World} (h : Upd m n w w1) (hm : ∀ x ∈ m, x ∈ m') : Upd m' [] w w1 := h.mono hm (by simp)
theorem Upd.new {m n : List Nat} {w w1 : World} (h : Upd m n w w1) {b : Nat} (hb : b ∈ n) : w.heap.size ≤ b ∧ b < w1.heap.size := h.news b hb

theorem cell_of_block {w : World} {b e : Nat} {c : Array Value} {f : Nat × Nat} (h : w.heap[b]? = some (.cells c e f)) (i : Nat) : w.cell? ⟨b, i, none⟩ = c[i]? := by
  simp [World.cell?, h]
theorem frozen_of_block {w : World} {b e : Nat} {c : Array Value} (h : w.heap[b]? = some (.cells c e (0, 0))) (i : Nat) : w.frozen? ⟨b, i, none⟩ = false := by
  simp [World.frozen?, h]
theorem cell_lt {w : World} {a : Addr} {v : Value} (h : w.cell? a = some v) : a.block < w.heap.size := by
  unfold World.cell? at h
  split at h
  · rename_i hb
    exact (Array.getElem?_eq_some_iff.1 hb).1
  · cases h
theorem isSome_lt {w : World} {a : Addr} (h : (w.cell? a).isSome = true) : a.block < w.heap.size := by
  obtain ⟨v, hv⟩ := Option.isSome_iff_exists.1 h
  exact cell_lt hv
@[simp] theorem add_block (a : Addr) (n : Nat) : (a.add n).block = a.block := by unfold Addr.add; split <;> rfl
@[simp] theorem add_zero (a : Addr) : a.add 0 = a := by simp [Addr.add]
theorem add_none {b o n : Nat} : (⟨b, o, none⟩ : Addr).add n = ⟨b, o + n, none⟩ := by unfold Addr.add; split <;> simp_all
theorem spot_none {w : World} {a : Addr} (h : (w.cell? a).isSome = true) : a = ⟨a.block, a.off, none⟩ := by
  obtain ⟨v, hv⟩ := Option.isSome_iff_exists.1 h
  have := World.cell?_spot hv
  cases a; simp_all

theorem Upd.cell' {m n : List Nat} {w w1 : World} (h : Upd m n w w1) {a : Addr} (hs : (w.cell? a).isSome = true) (hm : a.block ∉ m) : w1.cell? a = w.cell? a := by
  obtain ⟨v, hv⟩ := Option.isSome_iff_exists.1 hs
  rw [hv]; exact h.cell hv hm
theorem Upd.frozen {m n : List Nat} {w w1 : World} (h : Upd m n w w1) {a : Addr} (hs : a.block < w.heap.size) (hm : a.block ∉ m) : w1.frozen? a = w.frozen? a := by
  simp only [World.frozen?, h.keep _ hs hm]

/-- cells written one behind the other -/
theorem Upd.setCells (w : World) (b o : Nat) (vs : List Value) : Upd [b] [] w (w.setCells b o vs) where
  os := (World.keptBut_setCells b (may := fun _ => True) vs o w (fun _ _ => trivial)).1
  tape := by
    have : ∀ (vs : List Value) (o : Nat) (w : World), (w.setCells b o vs).tape = w.tape := by
      intro vs
      induction vs with
      | nil => intro o w; rfl
      | cons v r ih => intro o w; rw [World.setCells, ih]; rfl
    exact this vs o w
  output := (World.keptBut_setCells b (may := fun _ => True) vs o w (fun _ _ => trivial)).2.1
  size := by
    have : ∀ (vs : List Value) (o : Nat) (w : World), (w.setCells b o vs).heap.size = w.heap.size := by
      intro vs
      induction vs with
      | nil => intro o w; rfl
      | cons v r ih => intro o w; rw [World.setCells, ih]; simp [World.setCell]
    rw [this]; exact Nat.le_refl _
  keep k hk hn := by
    have : ∀ (vs : List Value) (o : Nat) (w : World), (w.setCells b o vs).heap[k]? = w.heap[k]? := by
      intro vs
      induction vs with
      | nil => intro o w; rfl
      | cons v r ih =>
        intro o w
        rw [World.setCells, ih]
        exact Below.heap_setCell _ _ _ _ (by simp at hn; exact hn)
    exact this vs o w
  news := by simp

/-! ### what a slice holds -/
/-- how elements lie in cells -/
structure Cod (α : Type) where
  sz : Nat
  enc : α → List Value
  len : ∀ x, (enc x).length = sz
  one : ∀ x, ∀ v ∈ enc x, v.oneCell' = true

def Cod.cells {α : Type} (c : Cod α) (l : List α) : List Value := l.flatMap c.enc
@[simp] theorem Cod.cells_nil {α : Type} (c : Cod α) : c.cells [] = [] := rfl
theorem Cod.cells_cons {α : Type} (c : Cod α) (x : α) (l : List α) : c.cells (x :: l) = c.enc x ++ c.cells l := by simp [Cod.cells]
theorem Cod.cells_append {α : Type} (c : Cod α) (l m : List α) : c.cells (l ++ m) = c.cells l ++ c.cells m := by simp [Cod.cells]
theorem Cod.cells_length {α : Type} (c : Cod α) : ∀ (l : List α), (c.cells l).length = l.length * c.sz
  | [] => by simp
  | x :: l => by rw [Cod.cells_cons, List.length_append, c.len, Cod.cells_length c l, List.length_cons, Nat.add_mul]; omega
theorem Cod.cells_one {α : Type} (c : Cod α) (l : List α) : ∀ v ∈ c.cells l, v.oneCell' = true := fun v hv => by
  obtain ⟨x, _, hx⟩ := List.mem_flatMap.1 hv
  exact c.one x v hx
theorem mul_add_lt {i j n sz : Nat} (hi : i < n) (hj : j < sz) : i * sz + j < n * sz := by
  have h1 : (i + 1) * sz ≤ n * sz := Nat.mul_le_mul_right _ hi
  rw [Nat.add_mul] at h1
  omega
theorem Cod.cells_get {α : Type} (c : Cod α) : ∀ (l : List α) (i : Nat) (h : i < l.length) (j : Nat) (hj : j < (c.enc l[i]).length), (c.cells l)[i * c.sz + j]? = some (c.enc l[i])[j]
  | x :: l, 0, _, j, hj => by
    simp at hj
    rw [Cod.cells_cons]
    simp [List.getElem?_append_left, hj]
  | x :: l, i + 1, h, j, hj => by
    rw [Cod.cells_cons, List.getElem?_append_right (by rw [c.len, Nat.add_mul]; omega), c.len]
    have := Cod.cells_get c l i (by simpa using h) j (by simpa using hj)
    rw [show (i + 1) * c.sz + j - c.sz = i * c.sz + j by rw [Nat.add_mul]; omega]
    simpa using this
theorem Cod.cells_take {α : Type} (c : Cod α) (l : List α) (n : Nat) : (c.cells l).take (n * c.sz) = c.cells (l.take n) := by
  induction l generalizing n with
  | nil => simp
  | cons x l ih =>
    cases n with
    | zero => simp
    | succ n =>
      rw [Cod.cells_cons, List.take_succ_cons, Cod.cells_cons, ← ih n]
      rw [List.take_append, c.len, List.take_of_length_le (by rw [c.len, Nat.add_mul]; omega)]
      rw [show (n + 1) * c.sz - c.sz = n * c.sz by rw [Nat.add_mul]; omega]
theorem Cod.cells_drop {α : Type} (c : Cod α) (l : List α) (n : Nat) : (c.cells l).drop (n * c.sz) = c.cells (l.drop n) := by
  induction l generalizing n with
  | nil => simp
  | cons x l ih =>
    cases n with
    | zero => simp
    | succ n =>
      rw [Cod.cells_cons, List.drop_succ_cons, ← ih n, List.drop_append, c.len, List.drop_of_length_le (by rw [c.len, Nat.add_mul]; omega)]
      rw [show (n + 1) * c.sz - c.sz = n * c.sz by rw [Nat.add_mul]; omega]
      simp

/-- the cells from p on -/
def Cells (w : World) (p : Option Addr) (vs : List Value) : Prop :=
  match p with
  | none => vs = []
  | some a => ∀ i (h : i < vs.length), w.cell? (a.add i) = some vs[i]

def Sl.blk (s : Sl) : List Nat := match s.ptr with | none => [] | some a => [a.block]
theorem blk_some {s : Sl} {a : Addr} (h : s.ptr = some a) : s.blk = [a.block] := by simp [Sl.blk, h]
theorem blk_none {s : Sl} (h : s.ptr = none) : s.blk = [] := by simp [Sl.blk, h]

structure Sees {α : Type} (c : Cod α) (w : World) (s : Sl) (l : List α) : Prop where
  len : s.len = l.length
  row : Cells w s.ptr (c.cells l)

theorem Cells.upd {m n : List Nat} {w w1 : World} {p : Option Addr} {vs : List Value} (h : Cells w p vs) (u : Upd m n w w1) (hm : ∀ a, p = some a → vs ≠ [] → a.block ∉ m) : Cells w1 p vs := by
  cases p with
  | none => exact h
  | some a =>
    intro i hi
    exact u.cell (h i hi) (by simpa using hm a rfl (by intro e; rw [e] at hi; cases hi))
theorem Cells.app {w : World} {a : Addr} {x y : List Value} (h : Cells w (some a) (x ++ y)) : Cells w (some a) x ∧ Cells w (some (a.add x.length)) y := by
  refine ⟨fun i hi => ?_, fun i hi => ?_⟩
  · have := h i (by simp; omega)
    rwa [List.getElem_append_left hi] at this
  · have := h (x.length + i) (by simp; omega)
    rw [List.getElem_append_right (by omega)] at this
    rw [add_add]
    simpa using this
theorem Cells.mk {w : World} {a : Addr} {x y : List Value} (h : Cells w (some a) x) (k : Cells w (some (a.add x.length)) y) : Cells w (some a) (x ++ y) := by
  intro i hi
  by_cases hx : i < x.length
  · rw [List.getElem_append_left hx]; exact h i hx
  · rw [List.getElem_append_right (by omega)]
    have := k (i - x.length) (by simp at hi; omega)
    rw [add_add, show x.length + (i - x.length) = i by omega] at this
    exact this

section
variable {α : Type} {c : Cod α} {w w1 : World} {s : Sl} {l : List α}

theorem Sees.upd {m n : List Nat} (h : Sees c w s l) (u : Upd m n w w1) (hm : ∀ b ∈ s.blk, b ∉ m) : Sees c w1 s l :=
  ⟨h.len, h.row.upd u (fun a ha _ => hm _ (by simp [blk_some ha]))⟩
theorem Sees.old {n : List Nat} (h : Sees c w s l) (u : Upd [] n w w1) : Sees c w1 s l := h.upd u (by simp)

theorem Sees.nil (c : Cod α) (w : World) (p : Option Addr) (cap : Nat) : Sees c w ⟨p, 0, cap⟩ [] := ⟨rfl, by cases p <;> simp [Cells]⟩

/-- an element's cells -/
theorem Sees.elem (h : Sees c w s l) {i : Nat} (hi : i < l.length) : Cells w (some (s.at c.sz i)) (c.enc l[i]) := by
  intro j hj
  have hrow := h.row
  have hg := c.cells_get l i hi j hj
  cases hp : s.ptr with
  | none =>
    rw [hp] at hrow
    simp only [Cells] at hrow
    rw [hrow] at hg
    simp at hg
  | some a =>
    rw [hp] at hrow
    obtain ⟨hlt, he⟩ := List.getElem?_eq_some_iff.1 hg
    have := hrow _ hlt
    rw [he] at this
    simp only [Sl.at, hp, Option.getD_some, add_add]
    exact this
theorem Sees.ptr_some (h : Sees c w s l) (hz : 0 < c.sz) (hl : 0 < l.length) : ∃ a, s.ptr = some a := by
  cases hp : s.ptr with
  | some a => exact ⟨a, rfl⟩
  | none =>
    have hrow := h.row
    rw [hp] at hrow
    simp only [Cells] at hrow
    have := c.cells_length l
    rw [hrow] at this
    have h2 : 0 < l.length * c.sz := Nat.mul_pos hl hz
    simp at this
    omega
theorem Sees.isSome (h : Sees c w s l) (hz : 0 < c.sz) (hl : 0 < l.length) : s.ptr.isSome = true := by
  obtain ⟨a, ha⟩ := h.ptr_some hz hl
  simp [ha]

/-- a slice of the slice -/
theorem Sees.sub (h : Sees c w s l) {lo hi mx : Nat} (h1 : lo ≤ hi) (h2 : hi ≤ l.length) (h3 : hi ≤ mx) : Sees c w (s.sub c.sz lo hi mx) ((l.take hi).drop lo) where
  len := by simp [Sl.sub]; omega
  row := by
    have hrow := h.row
    rw [← c.cells_drop, ← c.cells_take]
    cases hp : s.ptr with
    | none =>
      rw [hp] at hrow
      simp only [Cells] at hrow
      simp only [hrow, Sl.sub, hp]
      simp [Cells]
    | some a =>
      rw [hp] at hrow
      by_cases e : mx = lo
      · have : hi = lo := by omega
        subst this
        have e2 : ((c.cells l).take (hi * c.sz)).drop (hi * c.sz) = [] := by simp
        rw [e2]
        simp only [Sl.sub]
        split <;> simp [Cells, hp]
      · simp only [Sl.sub, if_neg e, hp, Option.map_some]
        intro i hi'
        simp at hi'
        rw [add_add]
        simp only [List.getElem_drop, List.getElem_take]
        exact hrow _ (by omega)
theorem Sees.take (h : Sees c w s l) {n : Nat} (hn : n ≤ l.length) (cap : Nat) : Sees c w ⟨s.ptr, n, cap⟩ (l.take n) where
  len := by simp; omega
  row := by
    have hrow := h.row
    rw [← c.cells_take]
    cases hp : s.ptr with
    | none => rw [hp] at hrow; simp only [Cells] at hrow; simp [hrow, Cells]
    | some a =>
      rw [hp] at hrow
      intro i hi
      simp at hi
      simp only [List.getElem_take]
      exact hrow _ (by omega)

theorem Sees.rowAt (h : Sees c w s l) : RowAt w s.ptr (s.len * c.sz) (c.cells l) := by
  have hrow := h.row
  cases hp : s.ptr with
  | none => rw [hp] at hrow; exact hrow
  | some a =>
    rw [hp] at hrow
    exact ⟨by rw [c.cells_length, h.len], hrow, c.cells_one l⟩

/-- a slice's array may be written, and it is from block N on -/
structure Own (N : Nat) (sz : Nat) (w : World) (s : Sl) : Prop where
  le : s.len ≤ s.cap
  nil : s.ptr = none → s.cap = 0
  blk : ∀ b ∈ s.blk, N ≤ b ∧ b < w.heap.size
  cell : ∀ a, s.ptr = some a → a.spot = none ∧ ∀ i, i < s.cap * sz → (w.cell? (a.add i)).isSome = true ∧ w.frozen? (a.add i) = false

theorem Own.none (N sz : Nat) (w : World) : Own N sz w ⟨none, 0, 0⟩ := ⟨Nat.le_refl _, fun _ => rfl, by simp [Sl.blk], by simp⟩
theorem Own.upd {N sz : Nat} {m n : List Nat} (h : Own N sz w s) (u : Upd m n w w1) (hm : ∀ b ∈ s.blk, b ∉ m) : Own N sz w1 s where
  le := h.le
  nil := h.nil
  blk b hb := ⟨(h.blk b hb).1, Nat.lt_of_lt_of_le (h.blk b hb).2 u.size⟩
  cell a ha := ⟨(h.cell a ha).1, fun i hi => by
    have hb := hm a.block (by simp [blk_some ha])
    have h1 := (h.cell a ha).2 i hi
    have h2 := (h.blk a.block (by simp [blk_some ha])).2
    rw [u.cell' h1.1 (by simpa using hb), u.frozen (by simpa using h2) (by simpa using hb)]
    exact h1⟩
theorem Own.old {N sz : Nat} {n : List Nat} (h : Own N sz w s) (u : Upd [] n w w1) : Own N sz w1 s := h.upd u (by simp)
theorem Own.mono {N N' sz : Nat} (h : Own N sz w s) (hN : N' ≤ N) : Own N' sz w s := ⟨h.le, h.nil, fun b hb => ⟨Nat.le_trans hN (h.blk b hb).1, (h.blk b hb).2⟩, h.cell⟩

/-- cells of a row written anew -/
theorem isSome_setCells' (b : Nat) (vs : List Value) (o : Nat) (w : World) (a : Addr) (h : (w.cell? a).isSome = true) : ((w.setCells b o vs).cell? a).isSome = true := by
  have : ∀ (vs : List Value) (o : Nat) (w : World), (w.cell? a).isSome = true → ((w.setCells b o vs).cell? a).isSome = true := by
    intro vs
    induction vs with
    | nil => intro o w h; exact h
    | cons v r ih =>
      intro o w h
      rw [World.setCells]
      refine ih _ _ ?_
      by_cases e : (⟨b, o, Option.none⟩ : Addr) = a
      · obtain ⟨u, hu⟩ := Option.isSome_iff_exists.1 h
        rw [← e] at hu ⊢
        rw [World.cell?_setCell_same _ _ _ hu]; rfl
      · rw [World.cell?_setCell_other _ _ _ _ e]; exact h
  exact this vs o w h

theorem Cells.setCells {a : Addr} {x y z vs : List Value} (h : Cells w (some a) (x ++ y ++ z)) (hs : a.spot = Option.none) (hl : vs.length = y.length) (hex : ∀ i, i < vs.length → (w.cell? (a.add (x.length + i))).isSome = true) :
    Cells (w.setCells a.block (a.off + x.length) vs) (some a) (x ++ vs ++ z) := by
  have ea : ∀ i, a.add i = ⟨a.block, a.off + i, Option.none⟩ := fun i => by cases a; simp at hs; subst hs; exact add_none
  intro i hi
  rw [ea]
  simp at hi
  by_cases h1 : i < x.length
  · rw [World.cell?_setCells_out _ _ _ _ _ (fun _ _ => by simp; omega)]
    have := h i (by simp; omega)
    rw [ea] at this
    rw [this, List.getElem_append_left (by simp; omega), List.getElem_append_left h1, List.getElem_append_left (by simp; omega), List.getElem_append_left h1]
  · by_cases h2 : i < x.length + vs.length
    · have := World.cell?_setCells_in a.block vs (a.off + x.length) w (fun j hj => by
        have := hex j hj
        rw [ea] at this
        rwa [show a.off + x.length + j = a.off + (x.length + j) by omega]) (i - x.length) (by omega)
      rw [show a.off + x.length + (i - x.length) = a.off + i by omega] at this
      rw [this, List.getElem_append_left (by simp; omega), List.getElem_append_right (by omega)]
    · rw [World.cell?_setCells_out _ _ _ _ _ (fun _ _ => by simp; omega)]
      have := h i (by simp; omega)
      rw [ea] at this
      rw [this, List.getElem_append_right (by simp; omega), List.getElem_append_right (by simp; omega)]
      simp [hl]
end
end Go.Vc
end

section
namespace Go.Vc
set_option linter.unusedVariables false
set_option linter.unusedSimpArgs false
set_option autoImplicit false

section
variable {α : Type} {c : Cod α} {w w1 : World} {s : Sl} {l : List α}

theorem add_eq {a : Addr} (hs : a.spot = none) (i : Nat) : a.add i = ⟨a.block, a.off + i, none⟩ := by cases a; simp at hs; subst hs; exact add_none

theorem cells_write {a : Addr} {vs : List Value} (hs : a.spot = none) (o : Nat) (hex : ∀ i, i < vs.length → (w.cell? (a.add (o + i))).isSome = true) :
    Cells (w.setCells a.block (a.off + o) vs) (some (a.add o)) vs := by
  intro i hi
  rw [add_add, add_eq hs]
  have := World.cell?_setCells_in a.block vs (a.off + o) w (fun j hj => by
    have := hex j hj
    rw [add_eq hs] at this
    rwa [show a.off + o + j = a.off + (o + j) by omega]) i hi
  rwa [show a.off + o + i = a.off + (o + i) by omega] at this
theorem cells_apart {a : Addr} {x vs : List Value} (hs : a.spot = none) (o p : Nat) (h : Cells w (some (a.add p)) x) (hp : p + x.length ≤ o ∨ o + vs.length ≤ p) :
    Cells (w.setCells a.block (a.off + o) vs) (some (a.add p)) x := by
  intro i hi
  have := h i hi
  rw [add_add, add_eq hs] at this ⊢
  rw [World.cell?_setCells_out _ _ _ _ _ (fun _ _ => by simp; omega)]
  exact this

theorem off_add {a : Addr} (hs : a.spot = none) (n : Nat) : (a.add n).off = a.off + n := by rw [add_eq hs]

theorem frozen_setCells' (b o : Nat) (vs : List Value) (a : Addr) : (w.setCells b o vs).frozen? a = w.frozen? a := World.frozen?_setCells b vs o w a

theorem Own.setCells {N sz : Nat} (h : Own N sz w s) (b o : Nat) (vs : List Value) : Own N sz (w.setCells b o vs) s where
  le := h.le
  nil := h.nil
  blk b' hb := ⟨(h.blk b' hb).1, by rw [setCells_size]; exact (h.blk b' hb).2⟩
  cell a ha := ⟨(h.cell a ha).1, fun i hi => ⟨isSome_setCells' _ _ _ _ _ ((h.cell a ha).2 i hi).1, by rw [frozen_setCells']; exact ((h.cell a ha).2 i hi).2⟩⟩

theorem appendN_own {N e by_ n : Nat} {new : List α} {bs : List Nat} {F : Sl → World → Prop} (h : Sees c w s l) (o : Own N c.sz w s) (hN : N ≤ w.heap.size) (hn : n = new.length)
    (hbs : ∀ b ∈ s.blk, b ∉ bs) (hpos : 0 < by_) (hb : (l.length + new.length) * by_ ≤ 140737488355328)
    (k : ∀ r w1, Sees c w1 r (l ++ new) → Own N c.sz w1 r → Upd s.blk [] w w1 → (∀ b ∈ r.blk, b ∈ s.blk ∨ w.heap.size ≤ b) → F r w1) : AppendN e c.sz by_ s n (c.cells new) bs w F := by
  subst hn
  have hlen := h.len
  refine ⟨fun hfit => ?_, fun hgrow => ⟨?_, ?_, c.cells l, h.rowAt, fun cap b cs w1 hcap u hb1 htake hsize => ?_⟩⟩
  · cases hp : s.ptr with
    | none =>
      have h0 := o.nil hp
      have e1 : new = [] := by cases new with | nil => rfl | cons => simp at hfit; omega
      subst e1
      have el : (⟨none, s.len + ([] : List α).length, s.cap⟩ : Sl) = s := by cases s; simp at hp; subst hp; rfl
      show F ⟨none, s.len + ([] : List α).length, s.cap⟩ w
      rw [el]
      exact k s w (by simpa using h) o ((Upd.refl w).wide (by simp)) (fun b hb => .inl hb)
    | some a =>
      obtain ⟨hs, hc⟩ := o.cell a hp
      have hmul : (s.len + new.length) * c.sz ≤ s.cap * c.sz := Nat.mul_le_mul_right _ hfit
      rw [Nat.add_mul] at hmul
      have hlc := c.cells_length new
      have hll := c.cells_length l
      have hrow := h.row
      rw [hp] at hrow
      refine ⟨fun i hi => ?_, ?_, ?_⟩
      · rw [add_add]
        exact hc _ (by omega)
      · simp only [add_block]
        exact hbs _ (by simp [blk_some hp])
      · show F _ (w.setCells (a.add (s.len * c.sz)).block (a.add (s.len * c.sz)).off (c.cells new))
        rw [off_add hs, add_block]
        refine k _ _ ⟨by simp [hlen], ?_⟩ ?_ ((Upd.setCells w a.block _ _).wide (by simp [blk_some hp])) (fun b hb => .inl (by simp [blk_some hp]; simpa [Sl.blk] using hb))
        · rw [c.cells_append]
          refine Cells.mk ?_ ?_
          · have := cells_apart (vs := c.cells new) hs (s.len * c.sz) 0 (by simpa using hrow) (.inl (by rw [hll, hlen]; omega))
            simpa using this
          · rw [hll, ← hlen]
            exact cells_write hs _ (fun i hi => (hc _ (by omega)).1)
        · have := (o.setCells a.block (a.off + s.len * c.sz) (c.cells new))
          exact ⟨by simp; omega, by simp, by simpa [Sl.blk, hp] using this.blk, fun a' ha' => by simp at ha'; subst ha'; exact this.cell a hp⟩
  · have : l.length + new.length ≤ (l.length + new.length) * by_ := Nat.le_mul_of_pos_right _ hpos
    omega
  · rw [hlen]
    rw [hlen] at hgrow
    exact growslice_fits hgrow hb
  · have hll := c.cells_length l
    have hln := c.cells_length new
    have hmul : (s.len + new.length) * c.sz + (cap - (s.len + new.length)) * c.sz = cap * c.sz := by rw [← Nat.add_mul]; congr 1; omega
    rw [Nat.add_mul] at hmul
    have hsz : cs.size = cap * c.sz := by rw [hsize, hll, hln, hlen] at *; omega
    have hget : ∀ i (hi : i < (c.cells l ++ c.cells new).length), cs[i]? = some (c.cells l ++ c.cells new)[i] := by
      intro i hi
      have e1 : (cs.toList.take ((c.cells l).length + (c.cells new).length))[i]? = some (c.cells l ++ c.cells new)[i] := by rw [htake]; exact List.getElem?_eq_getElem hi
      rw [List.getElem?_take, if_pos (by simpa using hi)] at e1
      simpa using e1
    have hbn := u.new (b := b) (by simp)
    refine k _ _ ⟨by simp [hlen], ?_⟩ ?_ ((u.mono (m' := s.blk) (n' := []) (by simp) (by simp))) (fun b' hb' => by simp [Sl.blk] at hb'; subst hb'; exact .inr hbn.1)
    · rw [c.cells_append]
      intro i hi
      rw [add_none, Nat.zero_add, cell_of_block hb1]
      exact hget i hi
    · refine ⟨by simpa using hcap, by simp, fun b' hb' => ?_, fun a ha => ?_⟩
      · simp [Sl.blk] at hb'
        subst hb'
        exact ⟨Nat.le_trans hN hbn.1, hbn.2⟩
      · simp at ha
        subst ha
        refine ⟨rfl, fun i hi => ?_⟩
        rw [add_none, cell_of_block hb1, frozen_of_block hb1]
        simp at hi
        simp [hsz, hi]

/-- append to a slice without room: new memory -/
theorem appendN_full {e by_ n : Nat} {new : List α} {bs : List Nat} {F : Sl → World → Prop} (h : Sees c w s l) (hfull : s.cap ≤ s.len) (hn : n = new.length) (hn0 : 0 < n)
    (hpos : 0 < by_) (hb : (l.length + new.length) * by_ ≤ 140737488355328)
    (k : ∀ r w1, Sees c w1 r (l ++ new) → Own w.heap.size c.sz w1 r → Upd [] [] w w1 → F r w1) : AppendN e c.sz by_ s n (c.cells new) bs w F := by
  subst hn
  have hlen := h.len
  refine ⟨fun hfit => by omega, fun hgrow => ⟨?_, ?_, c.cells l, h.rowAt, fun cap b cs w1 hcap u hb1 htake hsize => ?_⟩⟩
  · have : l.length + new.length ≤ (l.length + new.length) * by_ := Nat.le_mul_of_pos_right _ hpos
    omega
  · rw [hlen]
    rw [hlen] at hgrow
    exact growslice_fits hgrow hb
  · have hll := c.cells_length l
    have hln := c.cells_length new
    have hmul : (s.len + new.length) * c.sz + (cap - (s.len + new.length)) * c.sz = cap * c.sz := by rw [← Nat.add_mul]; congr 1; omega
    rw [Nat.add_mul] at hmul
    have hsz : cs.size = cap * c.sz := by rw [hsize, hll, hln, hlen] at *; omega
    have hget : ∀ i (hi : i < (c.cells l ++ c.cells new).length), cs[i]? = some (c.cells l ++ c.cells new)[i] := by
      intro i hi
      have e1 : (cs.toList.take ((c.cells l).length + (c.cells new).length))[i]? = some (c.cells l ++ c.cells new)[i] := by rw [htake]; exact List.getElem?_eq_getElem hi
      rw [List.getElem?_take, if_pos (by simpa using hi)] at e1
      simpa using e1
    have hbn := u.new (b := b) (by simp)
    refine k _ _ ⟨by simp [hlen], ?_⟩ ?_ u.forget
    · rw [c.cells_append]
      intro i hi
      rw [add_none, Nat.zero_add, cell_of_block hb1]
      exact hget i hi
    · refine ⟨by simpa using hcap, by simp, fun b' hb' => ?_, fun a ha => ?_⟩
      · simp [Sl.blk] at hb'
        subst hb'
        exact hbn
      · simp at ha
        subst ha
        refine ⟨rfl, fun i hi => ?_⟩
        rw [add_none, cell_of_block hb1, frozen_of_block hb1]
        simp at hi
        simp [hsz, hi]

theorem append_own {N e by_ : Nat} {x : Sl} {new : List α} {bs : List Nat} {F : Sl → World → Prop} (h : Sees c w s l) (o : Own N c.sz w s) (hx : Sees c w x new) (hN : N ≤ w.heap.size)
    (hbs : ∀ b ∈ s.blk, b ∉ bs) (hpos : 0 < by_) (hb : (l.length + new.length) * by_ ≤ 140737488355328)
    (k : ∀ r w1, Sees c w1 r (l ++ new) → Own N c.sz w1 r → Upd s.blk [] w w1 → (∀ b ∈ r.blk, b ∈ s.blk ∨ w.heap.size ≤ b) → F r w1) : Append e c.sz by_ s x bs w F :=
  ⟨c.cells new, hx.rowAt, appendN_own h o hN hx.len hbs hpos hb k⟩
theorem append_full {e by_ : Nat} {x : Sl} {new : List α} {bs : List Nat} {F : Sl → World → Prop} (h : Sees c w s l) (hfull : s.cap ≤ s.len) (hx : Sees c w x new) (hn0 : 0 < new.length)
    (hpos : 0 < by_) (hb : (l.length + new.length) * by_ ≤ 140737488355328)
    (k : ∀ r w1, Sees c w1 r (l ++ new) → Own w.heap.size c.sz w1 r → Upd [] [] w w1 → F r w1) : Append e c.sz by_ s x bs w F :=
  ⟨c.cells new, hx.rowAt, appendN_full h hfull hx.len (by rw [hx.len]; exact hn0) hpos hb k⟩

/-- an element is written -/
theorem own_set {N : Nat} {i : Nat} {x : α} {vs : List Value} {bs : List Nat} {F : World → Prop} (h : Sees c w s l) (o : Own N c.sz w s) (hz : 0 < c.sz) (hi : i < l.length) (hv : vs = c.enc x) (hbs : ∀ b ∈ s.blk, b ∉ bs)
    (k : ∀ w1, Sees c w1 s (l.set i x) → Own N c.sz w1 s → Upd s.blk [] w w1 → F w1) : Store w (s.at c.sz i) vs bs F := by
  subst hv
  obtain ⟨a, hp⟩ := h.ptr_some hz (by omega)
  obtain ⟨hs, hc⟩ := o.cell a hp
  have hat : s.at c.sz i = a.add (i * c.sz) := by simp [Sl.at, hp]
  have hlen := h.len
  have hle := o.le
  have hlx := c.len x
  have hrow := h.row
  rw [hp] at hrow
  have hm : ∀ j, j < c.sz → i * c.sz + j < s.cap * c.sz := fun j hj => mul_add_lt (by omega) hj
  refine ⟨fun j hj => ?_, ?_, ?_⟩
  · rw [hat, add_add]
    exact hc _ (hm j (by omega))
  · rw [hat, add_block]
    exact hbs _ (by simp [blk_some hp])
  · rw [hat, off_add hs, add_block]
    refine k _ ⟨by simpa using hlen, ?_⟩ (o.setCells _ _ _) ((Upd.setCells w a.block _ _).wide (by simp [blk_some hp]))
    rw [hp]
    have e1 : l.set i x = l.take i ++ x :: l.drop (i + 1) := by rw [List.set_eq_take_append_cons_drop, if_pos hi]
    have e2 : l = l.take i ++ l.drop i := (List.take_append_drop i l).symm
    have e3 : l.drop i = l[i] :: l.drop (i + 1) := List.drop_eq_getElem_cons hi
    rw [e1, c.cells_append, c.cells_cons]
    have h1 : (c.cells (l.take i)).length = i * c.sz := by rw [c.cells_length, List.length_take]; congr 1; omega
    have hrow' : Cells w (some a) (c.cells (l.take i) ++ (c.enc l[i] ++ c.cells (l.drop (i + 1)))) := by
      rw [← c.cells_cons, ← e3, ← c.cells_append, ← e2]; exact hrow
    obtain ⟨r1, r2⟩ := hrow'.app
    obtain ⟨r3, r4⟩ := r2.app
    rw [h1] at r4
    rw [add_add, c.len] at r4
    refine Cells.mk ?_ (Cells.mk ?_ ?_)
    · have := cells_apart (vs := c.enc x) hs (i * c.sz) 0 (by simpa using r1) (.inl (by omega))
      simpa using this
    · rw [h1]
      exact cells_write hs _ (fun j hj => (hc _ (hm j (by omega))).1)
    · rw [h1, add_add, hlx]
      exact cells_apart hs _ _ r4 (.inr (by omega))

/-- a new row -/
theorem sees_row {b e n cap : Nat} {f : Nat × Nat} {cs : List Value} (h : w.heap[b]? = some (.cells cs.toArray e f)) (l : List α) (hl : cs = c.cells l) (hn : n = l.length) : Sees c w ⟨some ⟨b, 0, none⟩, n, cap⟩ l := by
  subst hl hn
  refine ⟨rfl, fun i hi => ?_⟩
  rw [add_none, cell_of_block h]
  simp [hi]
theorem own_row {N b e n cap : Nat} {cs : List Value} {sz : Nat} (h : w.heap[b]? = some (.cells cs.toArray e (0, 0))) (hN : N ≤ b) (hl : cs.length = cap * sz) (hn : n ≤ cap) : Own N sz w ⟨some ⟨b, 0, none⟩, n, cap⟩ where
  le := hn
  nil := by simp
  blk b' hb := by simp [Sl.blk] at hb; subst hb; exact ⟨hN, (Array.getElem?_eq_some_iff.1 h).1⟩
  cell a ha := by
    simp at ha
    subst ha
    refine ⟨rfl, fun i hi => ?_⟩
    rw [add_none, cell_of_block h, frozen_of_block h]
    simp at hi
    simp [hl, hi]

theorem copy_own {N : Nat} {x : Sl} {m : List α} {bs : List Nat} {F : World → Prop} (h : Sees c w s l) (o : Own N c.sz w s) (hx : Sees c w x m) (hbs : ∀ b ∈ s.blk, b ∉ bs)
    (k : ∀ w1, Sees c w1 s (m.take l.length ++ l.drop m.length) → Own N c.sz w1 s → Upd s.blk [] w w1 → F w1) : Copy c.sz s x bs w F := by
  have hlen := h.len
  have hxl := hx.len
  have hle := o.le
  refine ⟨c.cells (m.take l.length), ?_, ?_⟩
  · have := (hx.take (n := min m.length l.length) (by omega) 0).rowAt
    rw [show Nat.min x.len s.len = min m.length l.length by rw [hxl, hlen]]
    have e : m.take (min m.length l.length) = m.take l.length := by rw [List.take_eq_take_iff]; omega
    rw [e] at this
    exact this
  · cases hp : s.ptr with
    | none =>
      have h0 := o.nil hp
      have e1 : l = [] := by cases l with | nil => rfl | cons => simp at hlen; omega
      subst e1
      simp only
      exact k w (by simpa using h) o ((Upd.refl w).wide (by simp))
    | some a =>
      obtain ⟨hs, hc⟩ := o.cell a hp
      have hrow := h.row
      rw [hp] at hrow
      have h1 : (c.cells (m.take l.length)).length = min l.length m.length * c.sz := by rw [c.cells_length, List.length_take]
      have hm : (c.cells (m.take l.length)).length ≤ s.cap * c.sz := by rw [h1]; exact Nat.mul_le_mul_right _ (by omega)
      refine ⟨fun i hi => hc i (by omega), hbs _ (by simp [blk_some hp]), ?_⟩
      refine k _ ⟨by simp; omega, ?_⟩ (o.setCells _ _ _) ((Upd.setCells w a.block _ _).wide (by simp [blk_some hp]))
      rw [hp, c.cells_append]
      refine Cells.mk ?_ ?_
      · have := cells_write (w := w) (vs := c.cells (m.take l.length)) hs 0 (fun i hi => by simpa using (hc i (by omega)).1)
        simpa using this
      · have hd : l.drop m.length = l.drop (min l.length m.length) := by
          by_cases g : m.length ≤ l.length
          · rw [Nat.min_eq_right g]
          · rw [List.drop_of_length_le (by omega), List.drop_of_length_le (by omega)]
        rw [hd, h1]
        have e2 : Cells w (some a) (c.cells (l.take (min l.length m.length)) ++ c.cells (l.drop (min l.length m.length))) := by rw [← c.cells_append, List.take_append_drop]; exact hrow
        have r := e2.app.2
        have h2 : (c.cells (l.take (min l.length m.length))).length = min l.length m.length * c.sz := by rw [c.cells_length, List.length_take]; congr 1; omega
        rw [h2] at r
        have := cells_apart (vs := c.cells (m.take l.length)) hs 0 _ r (.inr (by omega))
        simpa using this
end

theorem Cod.cells_map1 {α : Type} {c : Cod α} {g : α → Value} (h : ∀ x, c.enc x = [g x]) : ∀ (l : List α), c.cells l = l.map g
  | [] => rfl
  | x :: l => by rw [Cod.cells_cons, h, Cod.cells_map1 h l]; rfl

/-! ### bytes -/
def cU8 : Cod Int := ⟨1, fun n => [.int .u8 n], fun _ => rfl, by simp [Value.oneCell']⟩
def cI64 : Cod Int := ⟨1, fun n => [.int .i64 n], fun _ => rfl, by simp [Value.oneCell']⟩
def cSl : Cod Sl := ⟨1, fun s => [s.val], fun _ => rfl, by simp [Value.oneCell', Sl.val]⟩
abbrev SeesB (w : World) (s : Sl) (l : List Int) : Prop := Sees cU8 w s l
/-- the byte at a place (0 outside) -/
def bt (l : List Int) (i : Int) : Int := l.getD i.toNat 0
def Byt (l : List Int) : Prop := ∀ x ∈ l, 0 ≤ x ∧ x < 256
theorem Byt.bt {l : List Int} (h : Byt l) (i : Int) : 0 ≤ bt l i ∧ bt l i < 256 := by
  unfold Go.Vc.bt
  rw [List.getD_eq_getElem?_getD]
  by_cases hi : i.toNat < l.length
  · rw [List.getElem?_eq_getElem hi]; exact h _ (List.getElem_mem hi)
  · rw [List.getElem?_eq_none (by omega)]; simp
theorem Byt.app {l m : List Int} (h : Byt l) (k : Byt m) : Byt (l ++ m) := fun x hx => by rcases List.mem_append.1 hx with h' | h'; exact h x h'; exact k x h'
theorem Byt.nil : Byt [] := by simp [Byt]
theorem Byt.take {l : List Int} (h : Byt l) (n : Nat) : Byt (l.take n) := fun x hx => h x (List.mem_of_mem_take hx)
theorem Byt.drop {l : List Int} (h : Byt l) (n : Nat) : Byt (l.drop n) := fun x hx => h x (List.mem_of_mem_drop hx)
theorem Byt.set {l : List Int} (h : Byt l) (n : Nat) {v : Int} (hv : 0 ≤ v ∧ v < 256) : Byt (l.set n v) := fun x hx => by
  rcases List.mem_or_eq_of_mem_set hx with h' | h'
  · exact h x h'
  · subst h'; exact hv
theorem Sees.byte {w : World} {s : Sl} {l : List Int} (h : Sees cU8 w s l) {i : Int} (h0 : 0 ≤ i) (hi : i < l.length) : w.cell? (s.at 1 i.toNat) = some (.int .u8 (bt l i)) := by
  have := h.elem (i := i.toNat) (by omega) 0 (by simp [cU8])
  rw [add_zero] at this
  rw [show cU8.sz = 1 from rfl] at this
  rw [this]
  simp [cU8, bt, List.getD_eq_getElem?_getD, List.getElem?_eq_getElem (show i.toNat < l.length by omega)]
theorem Sees.subB {w : World} {s : Sl} {l : List Int} (h : Sees cU8 w s l) {lo hi mx : Nat} (h1 : lo ≤ hi) (h2 : hi ≤ l.length) (h3 : hi ≤ mx) : Sees cU8 w (s.sub 1 lo hi mx) ((l.take hi).drop lo) := h.sub h1 h2 h3
end Go.Vc
end

section
namespace Go.Vc
set_option linter.unusedVariables false
set_option linter.unusedSimpArgs false
set_option autoImplicit false

/-! ### steps of a statement -/
section
variable {X Y : Prop}
theorem brd {p : Prop} [Decidable p] (h1 : p → X) (h2 : ¬p → Y) : Br (decide p) X Y := Br_iff.2 ⟨fun h => h1 (of_decide_eq_true h), fun h => h2 (of_decide_eq_false h)⟩
theorem brb {c : Bool} (h1 : c = true → X) (h2 : c = false → Y) : Br c X Y := Br_iff.2 ⟨h1, h2⟩
theorem brn {c : Bool} (h1 : c = false → X) (h2 : c = true → Y) : Br (!c) X Y := Br_iff.2 ⟨fun h => h1 (by simpa using h), fun h => h2 (by simpa using h)⟩
theorem bre {α : Type} [BEq α] [LawfulBEq α] {a b : α} (h1 : a = b → X) (h2 : a ≠ b → Y) : Br (a == b) X Y := Br_iff.2 ⟨fun h => h1 (by simpa using h), fun h => h2 (by simpa using h)⟩
theorem bre' {α : Type} [BEq α] [LawfulBEq α] {a b : α} (h1 : a ≠ b → X) (h2 : a = b → Y) : Br (a != b) X Y := Br_iff.2 ⟨fun h => h1 (by simpa using h), fun h => h2 (by simpa using h)⟩
theorem brt {c : Bool} (h : c = true) (x : X) : Br c X Y := by subst h; exact x
theorem brf {c : Bool} (h : c = false) (y : Y) : Br c X Y := by subst h; exact y
theorem need {c : Bool} (h : c = true) (x : X) : Need c X := Need_iff.2 ⟨h, x⟩
theorem needIx {i n : Int} {o : Option Addr} (h0 : 0 ≤ i) (h1 : i < n) (h2 : o.isSome = true) (x : X) : Need (decide (0 ≤ i) && decide (i < n) && o.isSome) X := need (by simp [h0, h1, h2]) x
theorem needIx2 {i n : Int} (h0 : 0 ≤ i) (h1 : i < n) (x : X) : Need (decide (0 ≤ i) && decide (i < n)) X := need (by simp [h0, h1]) x
theorem needIxLe {i n : Int} (h0 : 0 ≤ i) (h1 : i ≤ n) (x : X) : Need (decide (0 ≤ i) && decide (i ≤ n)) X := need (by simp [h0, h1]) x
theorem needD {p : Prop} [Decidable p] (h : p) (x : X) : Need (decide p) X := need (by simp [h]) x
theorem needNe {a b : Int} (h : a ≠ b) (x : X) : Need (a != b) X := need (by simp [h]) x
theorem needSl {l h m : Int} (a : 0 ≤ h) (b : h ≤ m) (c : 0 ≤ l) (d : l ≤ h) (x : X) : Need (decide (0 ≤ h) && decide (h ≤ m) && (decide (0 ≤ l) && decide (l ≤ (h.toNat : Int)))) X :=
  need (by simp [a, b, c]; omega) x
end

theorem Ret.mono {P : Program} {f : Nat} {args : List SV} {w : World} {R R' : SV → World → Prop} (h : Ret P f args w R) (k : ∀ r w1, R r w1 → R' r w1) : Ret P f args w R' := by
  unfold Ret at *
  exact h.mono fun e w' ⟨r, h1, h2⟩ => ⟨r, h1, k r w' h2⟩

/-! ### numbers -/
theorem wr_i64 {x : Int} (h1 : -9223372036854775808 ≤ x) (h2 : x ≤ 9223372036854775807) : wr .i64 x = x := by
  unfold wr IntKind.wrap
  simp only [IntKind.bits, IntKind.signed, Bool.true_and, decide_eq_true_eq, ge_iff_le]
  split <;> omega
theorem wr_succ {q : Nat} (h : q < 9223372036854775807) : wr .i64 ((q : Int) + 1) = ((q + 1 : Nat) : Int) := by rw [wr_i64 (by omega) (by omega)]; omega
theorem wr_u64 {x : Int} (h1 : 0 ≤ x) (h2 : x ≤ 18446744073709551615) : wr .u64 x = x := by
  unfold wr IntKind.wrap
  simp only [IntKind.bits, IntKind.signed, Bool.false_and, Bool.false_eq_true, if_false]
  omega
theorem wr_u32 (x : Int) : wr .u32 x = x % 4294967296 := by
  unfold wr IntKind.wrap
  simp only [IntKind.bits, IntKind.signed, Bool.false_and, Bool.false_eq_true, if_false]
  omega
theorem wr_u16 (x : Int) : wr .u16 x = x % 65536 := by
  unfold wr IntKind.wrap
  simp only [IntKind.bits, IntKind.signed, Bool.false_and, Bool.false_eq_true, if_false]
  omega
theorem wr_u8 (x : Int) : wr .u8 x = x % 256 := by
  unfold wr IntKind.wrap
  simp only [IntKind.bits, IntKind.signed, Bool.false_and, Bool.false_eq_true, if_false]
  omega
theorem wr_range (k : IntKind) (x : Int) : k.min ≤ wr k x ∧ wr k x ≤ k.max := by
  cases k <;> simp only [wr, IntKind.wrap, IntKind.min, IntKind.max, IntKind.bits, IntKind.signed, Bool.true_and, Bool.false_and, decide_eq_true_eq, Bool.false_eq_true, if_false, if_true, ge_iff_le] <;> (try split) <;> omega
theorem wr_u8_range (x : Int) : 0 ≤ wr .u8 x ∧ wr .u8 x < 256 := by rw [wr_u8]; omega

theorem ofInt_toNat {n : Nat} {a : Int} (h : 0 ≤ a) (h1 : a < 2 ^ n) : (BitVec.ofInt n a).toNat = a.toNat := by
  rw [BitVec.toNat_ofInt]
  rw [Int.emod_eq_of_lt h (by exact_mod_cast h1)]
theorem wr_nat_i64 {n : Nat} (h : n < 9223372036854775808) : (IntKind.i64).wrap (n : Int) = n := by have := wr_i64 (x := n) (by omega) (by omega); exact this

theorem iand_nat {a b : Int} (ha : 0 ≤ a) (ha1 : a < 9223372036854775808) (hb : 0 ≤ b) (hb1 : b < 9223372036854775808) : iand .i64 a b = ((a.toNat &&& b.toNat : Nat) : Int) := by
  unfold iand ibits
  rw [BitVec.toNat_and, ofInt_toNat ha (by simp only [IntKind.bits]; omega), ofInt_toNat hb (by simp only [IntKind.bits]; omega)]
  have : a.toNat &&& b.toNat ≤ a.toNat := Nat.and_le_left
  exact wr_nat_i64 (by omega)
theorem ior_nat {a b : Int} (ha : 0 ≤ a) (ha1 : a < 9223372036854775808) (hb : 0 ≤ b) (hb1 : b < 9223372036854775808) : ior .i64 a b = ((a.toNat ||| b.toNat : Nat) : Int) := by
  unfold ior ibits
  rw [BitVec.toNat_or, ofInt_toNat ha (by simp only [IntKind.bits]; omega), ofInt_toNat hb (by simp only [IntKind.bits]; omega)]
  have : a.toNat ||| b.toNat < 2 ^ 63 := Nat.or_lt_two_pow (by omega) (by omega)
  exact wr_nat_i64 (by omega)
theorem ixor_nat {a b : Int} (ha : 0 ≤ a) (ha1 : a < 9223372036854775808) (hb : 0 ≤ b) (hb1 : b < 9223372036854775808) : ixor .i64 a b = ((a.toNat ^^^ b.toNat : Nat) : Int) := by
  unfold ixor ibits
  rw [BitVec.toNat_xor, ofInt_toNat ha (by simp only [IntKind.bits]; omega), ofInt_toNat hb (by simp only [IntKind.bits]; omega)]
  have : a.toNat ^^^ b.toNat < 2 ^ 63 := Nat.xor_lt_two_pow (by omega) (by omega)
  exact wr_nat_i64 (by omega)
theorem ixor_u8 {a b : Int} (ha : 0 ≤ a) (ha1 : a < 256) (hb : 0 ≤ b) (hb1 : b < 256) : ixor .u8 a b = ((a.toNat ^^^ b.toNat : Nat) : Int) := by
  unfold ixor ibits
  rw [BitVec.toNat_xor, ofInt_toNat ha (by simp only [IntKind.bits]; omega), ofInt_toNat hb (by simp only [IntKind.bits]; omega)]
  have : a.toNat ^^^ b.toNat < 2 ^ 8 := Nat.xor_lt_two_pow (by omega) (by omega)
  have h := wr_u8 ((a.toNat ^^^ b.toNat : Nat) : Int)
  unfold wr at h
  rw [h]; omega
theorem iand_u8 {a b : Int} (ha : 0 ≤ a) (ha1 : a < 256) (hb : 0 ≤ b) (hb1 : b < 256) : iand .u8 a b = ((a.toNat &&& b.toNat : Nat) : Int) := by
  unfold iand ibits
  rw [BitVec.toNat_and, ofInt_toNat ha (by simp only [IntKind.bits]; omega), ofInt_toNat hb (by simp only [IntKind.bits]; omega)]
  have : a.toNat &&& b.toNat ≤ a.toNat := Nat.and_le_left
  have h := wr_u8 ((a.toNat &&& b.toNat : Nat) : Int)
  unfold wr at h
  rw [h]; omega
theorem ior_u8 {a b : Int} (ha : 0 ≤ a) (ha1 : a < 256) (hb : 0 ≤ b) (hb1 : b < 256) : ior .u8 a b = ((a.toNat ||| b.toNat : Nat) : Int) := by
  unfold ior ibits
  rw [BitVec.toNat_or, ofInt_toNat ha (by simp only [IntKind.bits]; omega), ofInt_toNat hb (by simp only [IntKind.bits]; omega)]
  have : a.toNat ||| b.toNat < 2 ^ 8 := Nat.or_lt_two_pow (by omega) (by omega)
  have h := wr_u8 ((a.toNat ||| b.toNat : Nat) : Int)
  unfold wr at h
  rw [h]; omega

/-- a mask of low bits, of any number -/
theorem iand_mask {a : Int} (m : Nat) (hm : m < 63) : iand .i64 a (2 ^ m - 1) = a % 2 ^ m := by
  have hp : (2 : Int) ^ m < 2 ^ 63 := by exact_mod_cast Nat.pow_lt_pow_right (by omega) hm
  have hp' : (2 : Nat) ^ m < 2 ^ 63 := Nat.pow_lt_pow_right (by omega) hm
  have h1 : (1 : Nat) ≤ 2 ^ m := Nat.one_le_two_pow
  unfold iand ibits
  rw [BitVec.toNat_and]
  have e1 : (BitVec.ofInt (IntKind.i64).bits (2 ^ m - 1)).toNat = 2 ^ m - 1 := by
    rw [ofInt_toNat (by have : (1 : Int) ≤ 2 ^ m := by exact_mod_cast h1
                        omega) (by simp only [IntKind.bits]; omega)]
    have : ((2 : Int) ^ m - 1) = ((2 ^ m - 1 : Nat) : Int) := by push_cast [h1]; rfl
    rw [this]; rfl
  rw [e1, Nat.and_two_pow_sub_one_eq_mod]
  have e2 : (((BitVec.ofInt (IntKind.i64).bits a).toNat % 2 ^ m : Nat) : Int) = a % 2 ^ m := by
    rw [BitVec.toNat_ofInt]
    push_cast
    rw [Int.toNat_of_nonneg (Int.emod_nonneg _ (by simp [IntKind.bits]))]
    exact Int.emod_emod_of_dvd a (by simp only [IntKind.bits]; exact ⟨2 ^ (64 - m), by rw [← Int.pow_add]; congr 1; omega⟩)
  rw [e2]
  have h3 : 0 ≤ a % 2 ^ m := Int.emod_nonneg _ (by exact_mod_cast (Nat.pos_iff_ne_zero.1 h1))
  have h4 : a % 2 ^ m < 2 ^ m := Int.emod_lt_of_pos _ (by exact_mod_cast h1)
  exact wr_i64 (by omega) (by omega)
theorem and_65535 (a : Int) : iand .i64 a 65535 = a % 65536 := iand_mask 16 (by omega)
theorem and_255 (a : Int) : iand .i64 a 255 = a % 256 := iand_mask 8 (by omega)
theorem and_1 (a : Int) : iand .i64 a 1 = a % 2 := iand_mask 1 (by omega)
theorem and_4095 (a : Int) : iand .i64 a 4095 = a % 4096 := iand_mask 12 (by omega)
theorem and_15 (a : Int) : iand .i64 a 15 = a % 16 := iand_mask 4 (by omega)

theorem gshr_i64 (a b : Int) (h : b ≤ 64) : gshr .i64 a b = a.fdiv (2 ^ b.toNat) := by
  unfold gshr
  rw [Nat.min_eq_left (by simp only [IntKind.bits]; omega)]
theorem gshr8 (a : Int) : gshr .i64 a 8 = a / 256 := by rw [gshr_i64 _ _ (by omega)]; exact Int.fdiv_eq_ediv_of_nonneg _ (by decide)
theorem gshr16 (a : Int) : gshr .i64 a 16 = a / 65536 := by rw [gshr_i64 _ _ (by omega)]; exact Int.fdiv_eq_ediv_of_nonneg _ (by decide)
theorem gshr12 (a : Int) : gshr .i64 a 12 = a / 4096 := by rw [gshr_i64 _ _ (by omega)]; exact Int.fdiv_eq_ediv_of_nonneg _ (by decide)
theorem gshr13 (a : Int) : gshr .i64 a 13 = a / 8192 := by rw [gshr_i64 _ _ (by omega)]; exact Int.fdiv_eq_ediv_of_nonneg _ (by decide)
theorem gshr4 (a : Int) : gshr .i64 a 4 = a / 16 := by rw [gshr_i64 _ _ (by omega)]; exact Int.fdiv_eq_ediv_of_nonneg _ (by decide)
theorem gshr24 (a : Int) : gshr .i64 a 24 = a / 16777216 := by rw [gshr_i64 _ _ (by omega)]; exact Int.fdiv_eq_ediv_of_nonneg _ (by decide)
theorem gshl_i64 (a b : Int) (h : b ≤ 64) : gshl .i64 a b = wr .i64 (a * 2 ^ b.toNat) := by
  unfold gshl
  rw [Nat.min_eq_left (by simp only [IntKind.bits]; omega)]; rfl
theorem gshl8 (a : Int) : gshl .i64 a 8 = wr .i64 (a * 256) := gshl_i64 a 8 (by omega)
theorem gshl16 (a : Int) : gshl .i64 a 16 = wr .i64 (a * 65536) := gshl_i64 a 16 (by omega)
theorem gshl24 (a : Int) : gshl .i64 a 24 = wr .i64 (a * 16777216) := gshl_i64 a 24 (by omega)
theorem gshl12 (a : Int) : gshl .i64 a 12 = wr .i64 (a * 4096) := gshl_i64 a 12 (by omega)
theorem gshl13 (a : Int) : gshl .i64 a 13 = wr .i64 (a * 8192) := gshl_i64 a 13 (by omega)

/-- high and low bits together -/
theorem ior_add {a b : Int} (m : Nat) (ha : 0 ≤ a) (ha1 : a < 9223372036854775808) (hd : a % 2 ^ m = 0) (hb : 0 ≤ b) (hb1 : b < 2 ^ m) (hm : m < 63) : ior .i64 a b = a + b := by
  have hp : (2 : Int) ^ m < 2 ^ 63 := by exact_mod_cast Nat.pow_lt_pow_right (by omega) hm
  rw [ior_nat ha ha1 hb (by omega)]
  have e : a.toNat = 2 ^ m * (a.toNat / 2 ^ m) := by
    have h1 : a.toNat % 2 ^ m = 0 := by
      have : ((a.toNat % 2 ^ m : Nat) : Int) = 0 := by push_cast; rw [Int.toNat_of_nonneg ha]; exact hd
      exact_mod_cast this
    have := Nat.div_add_mod a.toNat (2 ^ m)
    omega
  have hb2 : b.toNat < 2 ^ m := by
    have : ((b.toNat : Nat) : Int) < ((2 ^ m : Nat) : Int) := by push_cast; omega
    exact_mod_cast this
  rw [e, ← Nat.two_pow_add_eq_or_of_lt hb2, ← e]
  push_cast
  omega

theorem tmod_pos {a b : Int} (h : 0 ≤ a) : Int.tmod a b = a % b := Int.tmod_eq_emod_of_nonneg h
theorem tdiv_pos {a b : Int} (h : 0 ≤ a) : Int.tdiv a b = a / b := Int.tdiv_eq_ediv_of_nonneg h
end Go.Vc
end

section
open Go Go.Vc Go.Vc.S11 Go.Proofs
set_option maxRecDepth 100000
set_option linter.unusedVariables false
namespace Go.Vc.S11
def vc10 (max : Int) (w : World) (R : SV → World → Prop) : Prop :=
  ∀ (J : World → Prop),
    (∀ (w1 : World),
        (∀ (b : Nat) (w1_1 : World),
            Upd [] [b] w1 w1_1 →
              (World.heap w1_1)[b]? = some (Obj.cells { toList := SV.cells (SV.struct [SV.arr IntKind.i64 2 (fset (fset (fun (x : Nat) => 0) 0 0) 1 max)]) } 29) →
                ∀ (b_1 : Nat) (w1 : World),
                  Upd [] [b_1] w1_1 w1 →
                    MapL w1 b_1 [] →
                      ∀ (b_2 : Nat) (w1_2 : World),
                        Upd [] [b_2] w1 w1_2 →
                          (World.heap w1_2)[b_2]? =
                              some
                                (Obj.cells
                                  {
                                    toList :=
                                      SV.cells
                                        (SV.struct
                                          [SV.int IntKind.i64 max, SV.slice { ptr := none, len := 0, cap := 0 },
                                            SV.slice { ptr := some { block := b, off := 0 }, len := 1, cap := 1 }, SV.int IntKind.i64 (-1), SV.int IntKind.i64 0,
                                            SV.map (some b_1)]) }
                                  76) →
                            R (SV.tuple [SV.ptr (some { block := b_2, off := 0 }), SV.int IntKind.i64 0]) w1_2) →
          J w1) →
      Br (decide (max < 1)) (R (SV.tuple [SV.ptr none, SV.int IntKind.i64 1]) w) (Br (decide (max > 65535)) (R (SV.tuple [SV.ptr none, SV.int IntKind.i64 1]) w) (J w))
theorem f10_of (max : Int) (w : World) (R : SV → World → Prop) (hV : vc10 max w R) : Ret Try.prog 10 [.int .i64 max] w R :=
  have e : vc10 max w R = fnVC X Try.f10 a10 [.int .i64 max] w R := by kernel_rfl
  fnVC_sound X_ok (n := a10) (e ▸ hV) (by kernel_rfl) (by kernel_rfl) rfl rfl

def vc11 (h : Option Addr) (w : World) (R : SV → World → Prop) : Prop :=
  deref h fun (a : Addr) =>
    ∃ (s : Sl), World.cell? w (Addr.add a 2) = some (Sl.val s) ∧ Ret Try.prog 31 [SV.slice s] w fun (r : SV) (w1 : World) => ∃ (s : Sl), r = SV.slice s ∧ R (SV.slice s) w1
theorem f11_of (h : Option Addr) (w : World) (R : SV → World → Prop) (hV : vc11 h w R) : Ret Try.prog 11 [.ptr h] w R :=
  have e : vc11 h w R = fnVC X Try.f11 a11 [.ptr h] w R := by kernel_rfl
  fnVC_sound X_ok (n := a11) (e ▸ hV) (by kernel_rfl) (by kernel_rfl) rfl rfl

def vc14 (h : Option Addr) (w : World) (R : SV → World → Prop) : Prop :=
  deref h fun (a : Addr) =>
    ∃ (n : Int),
      World.cell? w (Addr.add a 3) = some (Value.int IntKind.i64 n) ∧
        deref h fun (a : Addr) =>
          ∃ (n_1 : Int),
            World.cell? w (Addr.add a 3) = some (Value.int IntKind.i64 n_1) ∧
              ∀ (w1 : World), Upd [] [] w w1 → R (SV.tuple [SV.int IntKind.i64 (imax n 0), SV.bool (decide (n_1 ≥ 0))]) w1
theorem f14_of (h : Option Addr) (w : World) (R : SV → World → Prop) (hV : vc14 h w R) : Ret Try.prog 14 [.ptr h] w R :=
  have e : vc14 h w R = fnVC X Try.f14 a14 [.ptr h] w R := by kernel_rfl
  fnVC_sound X_ok (n := a14) (e ▸ hV) (by kernel_rfl) (by kernel_rfl) rfl rfl

def vc15 (h : Option Addr) (w : World) (R : SV → World → Prop) : Prop :=
  deref h fun (a : Addr) => ∃ (n : Int), World.cell? w (Addr.add a 4) = some (Value.int IntKind.i64 n) ∧ R (SV.int IntKind.i64 n) w
theorem f15_of (h : Option Addr) (w : World) (R : SV → World → Prop) (hV : vc15 h w R) : Ret Try.prog 15 [.ptr h] w R :=
  have e : vc15 h w R = fnVC X Try.f15 a15 [.ptr h] w R := by kernel_rfl
  fnVC_sound X_ok (n := a15) (e ▸ hV) (by kernel_rfl) (by kernel_rfl) rfl rfl

def vc16 (h : Option Addr) (w : World) (R : SV → World → Prop) : Prop :=
  deref h fun (a : Addr) =>
    ∃ (n : Int),
      World.cell? w (Addr.add a 3) = some (Value.int IntKind.i64 n) ∧
        Br (decide (n ≥ 0)) (deref h fun (a : Addr) => ∃ (s : Sl), World.cell? w (Addr.add a 2) = some (Sl.val s) ∧ R (SV.bool ((↑s.2 : Int) == 0)) w) (R (SV.bool false) w)
theorem f16_of (h : Option Addr) (w : World) (R : SV → World → Prop) (hV : vc16 h w R) : Ret Try.prog 16 [.ptr h] w R :=
  have e : vc16 h w R = fnVC X Try.f16 a16 [.ptr h] w R := by kernel_rfl
  fnVC_sound X_ok (n := a16) (e ▸ hV) (by kernel_rfl) (by kernel_rfl) rfl rfl

def vc18 (h : Option Addr) (w : World) (R : SV → World → Prop) : Prop :=
  Ret Try.prog 16 [SV.ptr h] w fun (r : SV) (w1 : World) =>
    ∃ (b : Bool),
      r = SV.bool b ∧
        Br (!b) (R (SV.tuple [SV.slice { ptr := none, len := 0, cap := 0 }, SV.bool false]) w1)
          (deref h fun (a : Addr) =>
            ∃ (s : Sl),
              World.cell? w1 (Addr.add a 1) = some (Sl.val s) ∧
                deref h fun (a : Addr) =>
                  ∃ (n : Int),
                    World.cell? w1 (Addr.add a 3) = some (Value.int IntKind.i64 n) ∧
                      Need (decide (0 ≤ n) && decide (n ≤ (↑s.3 : Int)))
                        (∀ (w1_1 : World),
                          Upd [] [] w1 w1_1 →
                            Ret Try.prog 34 [SV.slice (Sl.sub s 1 0 (Int.toNat n) s.3)] w1_1 fun (r : SV) (w1 : World) =>
                              ∃ (s : Sl), r = SV.slice s ∧ R (SV.tuple [SV.slice s, SV.bool true]) w1))
theorem f18_of (h : Option Addr) (w : World) (R : SV → World → Prop) (hV : vc18 h w R) : Ret Try.prog 18 [.ptr h] w R :=
  have e : vc18 h w R = fnVC X Try.f18 a18 [.ptr h] w R := by kernel_rfl
  fnVC_sound X_ok (n := a18) (e ▸ hV) (by kernel_rfl) (by kernel_rfl) rfl rfl

def vc31 (s : Sl) (w : World) (R : SV → World → Prop) : Prop :=
  Br (Option.isNone s.1) (R (SV.slice { ptr := none, len := 0, cap := 0 }) w)
    (∀ (b : Nat) (w1 : World),
      Upd [] [b] w w1 →
        (World.heap w1)[b]? = some (Obj.cells { toList := SV.cells (SV.struct []) } 29) →
          Vc.Append 29 2 16 { ptr := some { block := b, off := 0 }, len := 0, cap := 0 } s [] w1 fun (r : Sl) (w : World) => R (SV.slice r) w)
theorem f31_of (s : Sl) (w : World) (R : SV → World → Prop) (hV : vc31 s w R) : Ret Try.prog 31 [.slice s] w R :=
  have e : vc31 s w R = fnVC X Try.f31 a31 [.slice s] w R := by kernel_rfl
  fnVC_sound X_ok (n := a31) (e ▸ hV) (by kernel_rfl) (by kernel_rfl) rfl rfl

def vc32 (h : Option Addr) (off : Int) (data : Sl) (more : Bool) (w : World) (R : SV → World → Prop) : Prop :=
  Br (decide ((↑data.2 : Int) > 65535)) (R (SV.int IntKind.i64 2) w)
    (∀ (J : Bool → World → Prop),
      (∀ (b : Bool) (w1 : World),
          Br b (R (SV.int IntKind.i64 110) w1)
              (Br ((↑data.2 : Int) == 0) (R (SV.int IntKind.i64 111) w1)
                (deref h fun (a : Addr) =>
                  ∃ (n : Int),
                    World.cell? w1 a = some (Value.int IntKind.i64 n) ∧
                      Br (decide (off > n)) (R (SV.int IntKind.i64 112) w1)
                        (deref h fun (a : Addr) =>
                          ∃ (n : Int),
                            World.cell? w1 a = some (Value.int IntKind.i64 n) ∧
                              Br (decide (wr IntKind.i64 (off + (↑data.2 : Int)) > n)) (R (SV.int IntKind.i64 112) w1)
                                (∀ (J : Bool → World → Prop),
                                  (∀ (b : Bool) (w1 : World),
                                      Br b (R (SV.int IntKind.i64 114) w1)
                                          (∀ (J : Bool → World → Prop),
                                            (∀ (b : Bool) (w1 : World),
                                                Br b (R (SV.int IntKind.i64 113) w1)
                                                    (deref h fun (a : Addr) =>
                                                      ∃ (n : Int),
                                                        World.cell? w1 (Addr.add a 3) = some (Value.int IntKind.i64 n) ∧
                                                          Br (decide (n < 0))
                                                            (Br (!more)
                                                              (Ret Try.prog 45 [SV.ptr h] w1 fun (r : SV) (w1 : World) =>
                                                                ∃ (n : Int),
                                                                  r = SV.int IntKind.i64 n ∧
                                                                    Br (decide (n > wr IntKind.i64 (off + (↑data.2 : Int)))) (R (SV.int IntKind.i64 114) w1)
                                                                      (R (SV.int IntKind.i64 0) w1))
                                                              (R (SV.int IntKind.i64 0) w1))
                                                            (R (SV.int IntKind.i64 0) w1)) →
                                                  J b w1) →
                                              deref h fun (a : Addr) =>
                                                ∃ (n : Int),
                                                  World.cell? w1 (Addr.add a 3) = some (Value.int IntKind.i64 n) ∧
                                                    Br (decide (n ≥ 0))
                                                      (Br more
                                                        (deref h fun (a : Addr) =>
                                                          ∃ (n : Int),
                                                            World.cell? w1 (Addr.add a 3) = some (Value.int IntKind.i64 n) ∧
                                                              J (decide (wr IntKind.i64 (off + (↑data.2 : Int)) > n)) w1)
                                                        (J false w1))
                                                      (J false w1)) →
                                        J b w1) →
                                    deref h fun (a : Addr) =>
                                      ∃ (n : Int),
                                        World.cell? w1 (Addr.add a 3) = some (Value.int IntKind.i64 n) ∧
                                          Br (decide (n ≥ 0))
                                            (Br (!more)
                                              (deref h fun (a : Addr) =>
                                                ∃ (n : Int), World.cell? w1 (Addr.add a 3) = some (Value.int IntKind.i64 n) ∧ J (wr IntKind.i64 (off + (↑data.2 : Int)) != n) w1)
                                              (J false w1))
                                            (J false w1))))) →
            J b w1) →
        Br (decide (off < 0)) (J true w) (Br (Int.tmod off 8 != 0) (J true w) (Br more (J (Int.tmod (↑data.2 : Int) 8 != 0) w) (J false w))))
theorem f32_of (h : Option Addr) (off : Int) (data : Sl) (more : Bool) (w : World) (R : SV → World → Prop) (hV : vc32 h off data more w R) : Ret Try.prog 32 [.ptr h, .int .i64 off, .slice data, .bool more] w R :=
  have e : vc32 h off data more w R = fnVC X Try.f32 a32 [.ptr h, .int .i64 off, .slice data, .bool more] w R := by kernel_rfl
  fnVC_sound X_ok (n := a32) (e ▸ hV) (by kernel_rfl) (by kernel_rfl) rfl rfl

def vc33 (a : Sl) (b : Sl) (w : World) (R : SV → World → Prop) : Prop :=
  BytesStr w a fun (b_1 : ByteArray) => BytesStr w b fun (b : ByteArray) => R (SV.bool (b_1 == b)) w
theorem f33_of (a : Sl) (b : Sl) (w : World) (R : SV → World → Prop) (hV : vc33 a b w R) : Ret Try.prog 33 [.slice a, .slice b] w R :=
  have e : vc33 a b w R = fnVC X Try.f33 a33 [.slice a, .slice b] w R := by kernel_rfl
  fnVC_sound X_ok (n := a33) (e ▸ hV) (by kernel_rfl) (by kernel_rfl) rfl rfl

def vc34 (s : Sl) (w : World) (R : SV → World → Prop) : Prop :=
  Br (Option.isNone s.1) (R (SV.slice { ptr := none, len := 0, cap := 0 }) w)
    (∀ (b : Nat) (w1 : World),
      Upd [] [b] w w1 →
        (World.heap w1)[b]? = some (Obj.cells { toList := SV.cells (SV.struct []) } 5) →
          Vc.Append 5 1 1 { ptr := some { block := b, off := 0 }, len := 0, cap := 0 } s [] w1 fun (r : Sl) (w : World) => R (SV.slice r) w)
theorem f34_of (s : Sl) (w : World) (R : SV → World → Prop) (hV : vc34 s w R) : Ret Try.prog 34 [.slice s] w R :=
  have e : vc34 s w R = fnVC X Try.f34 a34 [.slice s] w R := by kernel_rfl
  fnVC_sound X_ok (n := a34) (e ▸ hV) (by kernel_rfl) (by kernel_rfl) rfl rfl

def vc45 (h : Option Addr) (w : World) (R : SV → World → Prop) : Prop :=
  deref h fun (a : Addr) =>
    ∃ (s : Sl),
      World.cell? w (Addr.add a 2) = some (Sl.val s) ∧
        Br ((↑s.2 : Int) == 0) (deref h fun (a : Addr) => ∃ (n : Int), World.cell? w a = some (Value.int IntKind.i64 n) ∧ R (SV.int IntKind.i64 n) w)
          (deref h fun (a : Addr) =>
            ∃ (s_1 : Sl),
              World.cell? w (Addr.add a 2) = some (Sl.val s_1) ∧
                Need (decide (0 ≤ wr IntKind.i64 ((↑s.2 : Int) - 1)) && decide (wr IntKind.i64 ((↑s.2 : Int) - 1) < (↑s_1.2 : Int)) && Option.isSome s_1.1)
                  (∃ (f : Nat → Int),
                    (∀ (i : Nat), i < 2 → World.cell? w (Addr.add (Sl.at s_1 2 (Int.toNat (wr IntKind.i64 ((↑s.2 : Int) - 1)))) (0 + i)) = some (Value.int IntKind.i64 (f i))) ∧
                      ∀ (b : Nat),
                        deref h fun (a : Addr) =>
                          ∃ (n : Int),
                            World.cell? w a = some (Value.int IntKind.i64 n) ∧
                              Br (f 1 == n) (∀ (w1 : World), Upd [] [b] w w1 → R (SV.int IntKind.i64 (f 0)) w1)
                                (deref h fun (a : Addr) =>
                                  ∃ (n : Int), World.cell? w a = some (Value.int IntKind.i64 n) ∧ ∀ (w1 : World), Upd [] [b] w w1 → R (SV.int IntKind.i64 n) w1)))
theorem f45_of (h : Option Addr) (w : World) (R : SV → World → Prop) (hV : vc45 h w R) : Ret Try.prog 45 [.ptr h] w R :=
  have e : vc45 h w R = fnVC X Try.f45 a45 [.ptr h] w R := by kernel_rfl
  fnVC_sound X_ok (n := a45) (e ▸ hV) (by kernel_rfl) (by kernel_rfl) rfl rfl

end Go.Vc.S11
end

section
namespace Go.Vc
set_option linter.unusedVariables false
set_option linter.unusedSimpArgs false
set_option autoImplicit false

/-- a slice of slices of bytes -/
structure Parts (w : World) (s : Sl) (ls : List (List Int)) (ss : List Sl) : Prop where
  row : Sees cSl w s ss
  len : ss.length = ls.length
  each : ∀ i (h : i < ls.length), SeesB w (ss[i]'(by rw [len]; exact h)) ls[i]

section
variable {w w1 : World} {s : Sl} {ls : List (List Int)} {ss : List Sl}
theorem Parts.slen (h : Parts w s ls ss) : s.len = ls.length := by rw [h.row.len, h.len]
theorem Parts.nil (w : World) (p : Option Addr) (cap : Nat) : Parts w ⟨p, 0, cap⟩ [] [] := ⟨Sees.nil _ _ _ _, rfl, by simp⟩
theorem Parts.upd {m n : List Nat} (h : Parts w s ls ss) (u : Upd m n w w1) (h1 : ∀ b ∈ s.blk, b ∉ m) (h2 : ∀ x ∈ ss, ∀ b ∈ x.blk, b ∉ m) : Parts w1 s ls ss where
  row := h.row.upd u h1
  len := h.len
  each i hi := (h.each i hi).upd u (h2 _ (List.getElem_mem _))
theorem Parts.old {n : List Nat} (h : Parts w s ls ss) (u : Upd [] n w w1) : Parts w1 s ls ss := h.upd u (by simp) (by simp)
theorem Parts.get (h : Parts w s ls ss) {i : Int} (h0 : 0 ≤ i) (hi : i < ls.length) : ∃ (h1 : i.toNat < ss.length) (h2 : i.toNat < ls.length),
    w.cell? (s.at 1 i.toNat) = some (ss[i.toNat]).val ∧ SeesB w ss[i.toNat] ls[i.toNat] ∧ s.ptr.isSome = true := by
  have h2 : i.toNat < ls.length := by omega
  have h1 : i.toNat < ss.length := by rw [h.len]; exact h2
  refine ⟨h1, h2, ?_, h.each _ h2, h.row.isSome (by decide) (by omega)⟩
  have := h.row.elem h1 0 (by simp [cSl])
  rw [add_zero] at this
  exact this
end

theorem take_snoc {α : Type} {l : List α} {k : Nat} (h : k < l.length) : l.take (k + 1) = l.take k ++ [l[k]] := List.take_succ_eq_append_getElem h
theorem flat_snoc {α : Type} {ls : List (List α)} {k : Nat} (h : k < ls.length) : (ls.take (k + 1)).flatten = (ls.take k).flatten ++ ls[k] := by rw [take_snoc h, List.flatten_append]; simp
theorem flat_le {α : Type} (ls : List (List α)) (k : Nat) : (ls.take k).flatten.length ≤ ls.flatten.length := by
  have := congrArg List.length (List.take_append_drop k ls ▸ List.flatten_append (L₁ := ls.take k) (L₂ := ls.drop k))
  rw [List.length_append] at this
  have h2 : (List.take k ls ++ List.drop k ls).flatten.length = ls.flatten.length := by rw [List.take_append_drop]
  omega
theorem byt_flat {ls : List (List Int)} (h : ∀ l ∈ ls, Byt l) : Byt ls.flatten := fun x hx => by
  obtain ⟨l, hl, hx⟩ := List.mem_flatten.1 hx
  exact h l hl x hx
theorem byt_flat_take {ls : List (List Int)} (h : ∀ l ∈ ls, Byt l) (k : Nat) : Byt (ls.take k).flatten := byt_flat fun l hl => h l (List.mem_of_mem_take hl)
theorem bt_nat {l : List Int} {i : Nat} (h : i < l.length) : bt l (i : Int) = l[i] := by simp [bt, h]
theorem bt_int {l : List Int} {i : Int} (h0 : 0 ≤ i) (h : i.toNat < l.length) : bt l i = l[i.toNat] := by simp [bt, h]
/-- all of w's blocks but m's stand; what has been read of a slice stands -/
theorem needB {X : Prop} {w : World} {s : Sl} {l : List Int} (h : SeesB w s l) {i : Int} (h0 : 0 ≤ i) (h1 : i < l.length) (x : X) : Need (decide (0 ≤ i) && decide (i < (s.len : Int)) && s.ptr.isSome) X :=
  needIx h0 (by rw [h.len]; exact h1) (h.isSome (by decide) (by omega)) x
theorem needB' {X : Prop} {w : World} {s : Sl} {l : List Int} (h : SeesB w s l) {i : Int} (h0 : 0 ≤ i) (h1 : i < l.length) (x : X) : Need (decide (0 ≤ i) && decide (i < (l.length : Int)) && s.ptr.isSome) X :=
  needIx h0 h1 (h.isSome (by decide) (by omega)) x
theorem needP {X : Prop} {w : World} {s : Sl} {ls : List (List Int)} {ss : List Sl} (h : Parts w s ls ss) {i : Int} (h0 : 0 ≤ i) (h1 : i < ls.length) (x : X) : Need (decide (0 ≤ i) && decide (i < (s.len : Int)) && s.ptr.isSome) X :=
  needIx h0 (by rw [h.slen]; exact h1) (h.get h0 h1).2.2.2.2 x
/-- a row that was just made of bytes -/
theorem rowB {w : World} {b e n cap : Nat} {f : Nat × Nat} {cs : List Value} (h : w.heap[b]? = some (.cells cs.toArray e f)) (l : List Int) (hl : cs = cU8.cells l) (hn : n = l.length) : SeesB w ⟨some ⟨b, 0, none⟩, n, cap⟩ l := sees_row h l hl hn
def AllB (w : World) : List Sl → List (List Int) → Prop
  | [], [] => True
  | s :: r, l :: q => SeesB w s l ∧ AllB w r q
  | _, _ => False
theorem AllB.len {w : World} : ∀ {ss : List Sl} {ls : List (List Int)}, AllB w ss ls → ss.length = ls.length
  | [], [], _ => rfl
  | _ :: _, _ :: _, h => by simp [AllB.len h.2]
  | [], _ :: _, h => h.elim
  | _ :: _, [], h => h.elim
theorem AllB.get {w : World} : ∀ {ss : List Sl} {ls : List (List Int)} (h : AllB w ss ls) (i : Nat) (hi : i < ls.length), SeesB w (ss[i]'(by rw [h.len]; exact hi)) ls[i]
  | _ :: _, _ :: _, h, 0, _ => h.1
  | _ :: _, _ :: _, h, i + 1, hi => AllB.get h.2 i (by simpa using hi)
  | [], _ :: _, h, _, _ => h.elim
/-- a row that was just made of slices -/
theorem rowP {w : World} {b e n cap : Nat} {f : Nat × Nat} {cs : List Value} {ss : List Sl} {ls : List (List Int)} (h : w.heap[b]? = some (.cells cs.toArray e f)) (hl : cs = cSl.cells ss) (hn : n = ss.length) (ha : AllB w ss ls) :
    Parts w ⟨some ⟨b, 0, none⟩, n, cap⟩ ls ss := ⟨sees_row h ss hl hn, ha.len, ha.get⟩
end Go.Vc
end

section
namespace Go.Vc
set_option linter.unusedVariables false
set_option linter.unusedSimpArgs false
set_option autoImplicit false

/-! ### bytes out of a row, arrays -/
/-- bytes within a row -/
theorem rowMid {w : World} {b e n cap o : Nat} {f : Nat × Nat} {cs : List Value} (h : w.heap[b]? = some (.cells cs.toArray e f)) (pre post : List Value) (l : List Int) (hl : cs = pre ++ cU8.cells l ++ post) (ho : o = pre.length) (hn : n = l.length) :
    SeesB w ⟨some ⟨b, o, none⟩, n, cap⟩ l := by
  subst hl ho hn
  refine ⟨rfl, fun i hi => ?_⟩
  rw [add_none, cell_of_block h]
  simp [List.getElem?_append_right, List.getElem?_append_left, hi]
def arrL (n : Nat) (f : Nat → Int) : List Int := (List.range n).map f
theorem arrL_len (n : Nat) (f : Nat → Int) : (arrL n f).length = n := by simp [arrL]
theorem arrL_cells (k : Nat) (f : Nat → Int) : SV.cells (.arr .u8 k f) = cU8.cells (arrL k f) := by
  rw [Cod.cells_map1 (fun _ => rfl)]
  simp [SV.cells, arrL]
theorem arrL_bt {n : Nat} {f : Nat → Int} {i : Int} (h0 : 0 ≤ i) (h : i < n) : bt (arrL n f) i = f i.toNat := by
  rw [bt_int h0 (by rw [arrL_len]; omega)]
  simp [arrL]
theorem arrL_byt {n : Nat} {f : Nat → Int} (h : ∀ i, i < n → 0 ≤ f i ∧ f i < 256) : Byt (arrL n f) := by
  intro x hx
  obtain ⟨i, hi, rfl⟩ := List.mem_map.1 hx
  exact h i (List.mem_range.1 hi)
theorem eqArr_iff {n : Nat} {f g : Nat → Int} : eqArr n f g = true ↔ ∀ i, i < n → f i = g i := by
  unfold eqArr
  simp
theorem eqArr_dec {n : Nat} {f g : Nat → Int} : eqArr n f g = decide (arrL n f = arrL n g) := by
  rw [Bool.eq_iff_iff, eqArr_iff, decide_eq_true_iff]
  unfold arrL
  rw [List.map_inj_left]
  simp
theorem wr_nat1 {q : Nat} (h : q < 9223372036854775807) : wr .i64 ((q : Int) + 1) = ((q + 1 : Nat) : Int) := wr_succ h

/-! ### loops that many functions have -/
section
variable {w : World} {s : Sl} {l : List Int}
/-- all places are written with one value -/
theorem fill_loop {N : Nat} {bs : List Nat} {v : Int} {vs : List Value} {K : World → Prop} {C : (Int → World → Prop) → (Int → World → Nat) → Int → World → World → Prop}
    (h : SeesB w s l) (o : Own N 1 w s) (hl : l.length < 9223372036854775807) (hv : vs = [.int .u8 v]) (hbs : ∀ b ∈ s.blk, b ∉ bs)
    (hC : ∀ I M n w w', I (wr .i64 (n + 1)) w' → M (wr .i64 (n + 1)) w' < M n w → C I M n w w')
    (k : ∀ w1, Upd s.blk [] w w1 → SeesB w1 s (List.replicate l.length v) → Own N 1 w1 s → K w1) :
    ∃ (I : Int → World → Prop), ∃ (M : Int → World → Nat), I 0 w ∧ ∀ (n : Int) (w1 : World), I n w1 →
      Br (decide (n < (s.len : Int))) (Need (decide (0 ≤ n) && decide (n < (s.len : Int)) && s.ptr.isSome) (Store w1 (s.at 1 n.toNat) vs bs fun w2 => C I M n w1 w2)) (K w1) := by
  refine ⟨fun n w1 => Upd s.blk [] w w1 ∧ Own N 1 w1 s ∧ ∃ t : Nat, n = t ∧ t ≤ l.length ∧ SeesB w1 s (List.replicate t v ++ l.drop t), fun n _ => (l.length - n).toNat, ⟨(Upd.refl w).wide (by simp), o, 0, rfl, by omega, by simpa using h⟩, ?_⟩
  rintro n w1 ⟨u, o1, t, rfl, ht, hs⟩
  have hsl := h.len
  refine brd (fun hlt => ?_) (fun hge => ?_)
  · have hlen : (List.replicate t v ++ l.drop t).length = l.length := by simp; omega
    refine needB hs (by omega) (by omega) (own_set (c := cU8) (x := v) hs o1 (by decide) (by omega) hv hbs fun w2 hs2 o2 u2 => ?_)
    refine hC _ _ _ _ _ ⟨u.step u2 (fun b hb => .inr hb), o2, t + 1, wr_succ (by omega), by omega, ?_⟩ (by rw [wr_succ (by omega)]; (try dsimp only); omega)
    have e : (List.replicate t v ++ l.drop t).set t v = List.replicate (t + 1) v ++ l.drop (t + 1) := by
      rw [List.set_append_right _ _ (by simp), List.length_replicate, Nat.sub_self, List.drop_eq_getElem_cons (show t < l.length by omega), List.set_cons_zero, List.replicate_succ', List.append_assoc]
      rfl
    rw [Int.toNat_natCast] at hs2
    rwa [e] at hs2
  · have : t = l.length := by omega
    subst this
    exact k w1 u (by simpa using hs) o1
/-- are all places this value? (they are) -/
theorem all_loop {v : Int} {K F : World → Prop} {C : (Int → World → Prop) → (Int → World → Nat) → Int → World → Prop} {m : Nat}
    (h : SeesB w s l) (hl : l.length < 9223372036854775807) (hv : l = List.replicate m v)
    (hC : ∀ (I : Int → World → Prop) (M : Int → World → Nat) n w, I (wr .i64 (n + 1)) w → M (wr .i64 (n + 1)) w < M n w → C I M n w) (k : K w) :
    ∃ (I : Int → World → Prop), ∃ (M : Int → World → Nat), I 0 w ∧ ∀ (n : Int) (w1 : World), I n w1 →
      Br (decide (n < (s.len : Int))) (Need (decide (0 ≤ n) && decide (n < (s.len : Int)) && s.ptr.isSome) (∃ x : Int, w1.cell? (s.at 1 n.toNat) = some (.int .u8 x) ∧ Br (x != v) (F w1) (C I M n w1))) (K w1) := by
  refine ⟨fun n w1 => w1 = w ∧ ∃ t : Nat, n = t ∧ t ≤ l.length, fun n _ => (l.length - n).toNat, ⟨rfl, 0, rfl, by omega⟩, ?_⟩
  rintro n w1 ⟨rfl, t, rfl, ht⟩
  have hsl := h.len
  refine brd (fun hlt => ?_) (fun hge => k)
  refine needB h (by omega) (by omega) ⟨_, h.byte (by omega) (by omega), ?_⟩
  have : bt l (t : Int) = v := by
    rw [bt_nat (by omega)]
    subst hv
    simp
  rw [this]
  exact brf (by simp) (hC _ _ _ _ ⟨rfl, t + 1, wr_succ (by omega), by omega⟩ (by rw [wr_succ (by omega)]; (try dsimp only); omega))
end
end Go.Vc
end

section
namespace Go.Vc
set_option linter.unusedVariables false
set_option linter.unusedSimpArgs false
set_option autoImplicit false
theorem arrL_succ (n : Nat) (f : Nat → Int) : arrL (n + 1) f = arrL n f ++ [f n] := by simp [arrL, List.range_succ]
/-- an array's bytes are appended one by one -/
theorem app_loop {w w0 : World} {s : Sl} {l : List Int} {f : Nat → Int} {m : Nat} {mi : Int} {e e' : Nat} {cells : Int → List Value} {bs : List Nat} {K : Sl → World → Prop} {C : (Sl → Int → World → Prop) → (Sl → Int → World → Nat) → Sl → Int → World → Sl → World → Prop}
    (hm : mi = m) (u : Upd [] [] w0 w) (h : SeesB w s l) (o : Own w0.heap.size 1 w s) (hl : l.length + m ≤ 70368744177664) (hcells : ∀ t : Nat, t < m → cells (t : Int) = [.int .u8 (f t)]) (hbs : ∀ b ∈ bs, b < w0.heap.size)
    (hC : ∀ (I : Sl → Int → World → Prop) (M : Sl → Int → World → Nat) s n w r w', I r (wr .i64 (n + 1)) w' → M r (wr .i64 (n + 1)) w' < M s n w → C I M s n w r w')
    (k : ∀ s w1, Upd [] [] w0 w1 → SeesB w1 s (l ++ arrL m f) → Own w0.heap.size 1 w1 s → K s w1) :
    ∃ (I : Sl → Int → World → Prop), ∃ (M : Sl → Int → World → Nat), I s 0 w ∧ ∀ (s : Sl) (n : Int) (w1 : World), I s n w1 →
      Br (decide (n < mi)) (Need (decide (0 ≤ n) && decide (n < mi)) (∀ (b : Nat) (w2 : World), Upd [] [b] w1 w2 → w2.heap[b]? = some (.cells (cells n).toArray e (0, 0)) → Append e' 1 1 s ⟨some ⟨b, 0, none⟩, 1, 1⟩ bs w2 fun r w3 => C I M s n w1 r w3)) (K s w1) := by
  subst hm
  refine ⟨fun s n w1 => Upd [] [] w0 w1 ∧ Own w0.heap.size 1 w1 s ∧ ∃ t : Nat, n = t ∧ t ≤ m ∧ SeesB w1 s (l ++ arrL t f), fun _ n _ => (m - n).toNat, ⟨u, o, 0, rfl, by omega, by simpa [arrL] using h⟩, ?_⟩
  rintro s n w1 ⟨u, o, t, rfl, ht, hs⟩
  refine brd (fun hlt => ?_) (fun hge => ?_)
  · refine needIx2 (by omega) hlt ?_
    intro b w2 u2 hrow
    rw [hcells t (by omega)] at hrow
    have ho2 := o.old u2
    have v2 := u.then u2
    refine append_own (c := cU8) (new := [f t]) (hs.old u2) ho2 (rowB hrow _ rfl rfl) v2.size (fun b hb hmem => by have := (ho2.blk b hb).1; have := hbs b hmem; omega) (by omega) (by simp [arrL_len]; omega) fun r w3 hr3 ho3 u3 _ => ?_
    refine hC _ _ _ _ _ _ _ ⟨v2.step0 u3 (fun b hb => (ho2.blk b hb).1), ho3, t + 1, wr_succ (by omega), by omega, ?_⟩ (by rw [wr_succ (by omega)]; (try dsimp only); omega)
    rw [arrL_succ, ← List.append_assoc]
    exact hr3
  · have : t = m := by omega
    subst this
    exact k s w1 u hs o
end Go.Vc
end
