import Derived.Test.YtopobapmncbjhaaG2
import Derived.Below
import Derived.KernelRfl
import Derived.Recover
section
open Go Go.Vc
namespace Go.Vc.S5
/-- gosem.cut.init -/
def a2 : Ann := .leaf
/-- weir/weirlaw5.LinkPads -/
def a3 : Ann := (.seq .leaf (.seq .leaf (.cut [] [0] (.seq (.draw (.early 0 (.early 1 (.early 2 (.early 3 (.early 4 (.early 5 (.early 6 (.early 7 (.early 8 (.early 9 (.early 10 (.early 11 (.early 12 (.early 13 (.early 14 (.early 15 (.early 16 (.early 18 (.fork [(17, (.fork [(19, (.early 20 (.early 21 (.early 22 (.early 23 (.fork [(24, (.early 25 (.early 26 .done)))]))))))]))])))))))))))))))))))) (.cond (.seq .leaf .leaf) .leaf)) (.seq .leaf (.seq .leaf (.seq .leaf (.seq .leaf (.seq (.seq .leaf (.cond (.seq .leaf .leaf) .leaf)) (.seq (.seq .leaf (.block (.loop [(.t 11, (.int .i64))] [0] (.seq (.seq .leaf (.cond .leaf .leaf)) (.seq (.block .leaf) .leaf))))) (.seq (.seq .leaf (.block (.loop [(.t 12, (.int .i64))] [0] (.seq (.seq .leaf (.cond .leaf .leaf)) (.seq (.block .leaf) .leaf))))) (.seq .leaf (.seq .leaf (.seq .leaf (.cut [] [0] (.seq .leaf (.cond (.seq .leaf .leaf) .leaf)) (.seq (.seq .leaf (.block (.loop [(.t 16, (.int .i64))] [0] (.seq (.seq .leaf (.cond .leaf .leaf)) (.seq (.block (.seq .leaf (.cond (.seq .leaf .leaf) .leaf))) .leaf))))) (.seq (.seq .leaf (.block (.loop [(.t 17, (.int .i64))] [0] (.seq (.seq .leaf (.cond .leaf .leaf)) (.seq (.block (.seq .leaf (.cond (.seq .leaf .leaf) .leaf))) .leaf))))) (.seq .leaf .leaf)))))))))))))))))
/-- weir/weirlaw5.LinkArps -/
def a4 : Ann := (.seq .leaf (.seq .leaf (.seq .leaf (.cut [] [0, 1] (.seq (.draw (.early 0 (.early 1 (.early 2 (.early 3 (.early 4 (.early 5 (.early 6 (.early 7 (.fork [(8, (.early 9 (.early 10 (.early 11 (.early 12 (.early 13 (.early 14 (.early 15 .done))))))))])))))))))) (.cond (.seq .leaf .leaf) .leaf)) (.seq .leaf (.seq .leaf (.seq .leaf (.seq .leaf (.cut [] [0, 1, 2, 3] (.seq .leaf (.cond (.seq .leaf .leaf) .leaf)) (.seq .leaf (.seq .leaf (.cut [] [0, 1, 2, 3] (.seq .leaf (.cond (.seq .leaf .leaf) .leaf)) (.seq (.seq .leaf (.block (.loop [(.t 17, (.int .i64))] [0, 1, 2, 3] (.seq (.seq .leaf (.cond .leaf .leaf)) (.seq (.block .leaf) .leaf))))) (.seq (.seq .leaf (.block (.loop [(.t 18, (.int .i64))] [0, 1, 2, 3] (.seq (.seq .leaf (.cond .leaf .leaf)) (.seq (.block .leaf) .leaf))))) (.seq .leaf (.seq .leaf (.seq .leaf (.seq .leaf .leaf))))))))))))))))))
/-- weir/weirlaw5.LinkArpBack -/
def a5 : Ann := (.seq .leaf (.seq .leaf (.cut [] [0] (.seq .leaf (.cond (.seq .leaf .leaf) .leaf)) (.seq .leaf (.seq .leaf (.cut [] [0, 1] (.seq .leaf (.cond (.seq .leaf .leaf) .leaf)) (.cut [] [0, 1] (.seq .leaf (.cond (.seq .leaf (.seq .leaf (.cond (.seq .leaf .leaf) .leaf))) .leaf)) (.seq .leaf (.seq (.seq .leaf (.cond (.seq .leaf .leaf) .leaf)) (.seq .leaf (.seq .leaf .leaf)))))))))))
/-- weir/weirlaw5.LinkParses -/
def a6 : Ann := (.seq .leaf (.seq (.seq .leaf (.cond (.seq .leaf .leaf) .leaf)) (.seq .leaf (.seq .leaf (.seq .leaf (.seq .leaf (.cut [] [0, 1] (.seq .leaf (.cond (.seq .leaf .leaf) .leaf)) (.seq .leaf (.cut [] [0, 1] (.seq .leaf (.cond (.seq .leaf .leaf) .leaf)) (.seq .leaf (.seq (.seq .leaf (.block (.loop [(.t 12, (.int .i64))] [0, 1] (.seq (.seq .leaf (.cond .leaf .leaf)) (.seq (.block (.seq (.draw (.early 0 (.early 1 (.early 2 (.early 3 (.early 4 (.early 5 (.early 6 (.early 7 (.early 8 (.early 9 (.fork [(10, .done)])))))))))))) (.seq (.seq (.draw (.early 0 (.early 1 (.early 2 (.early 3 (.early 4 (.early 5 (.early 6 (.early 7 (.early 8 (.early 9 (.early 10 (.early 11 (.early 12 (.early 13 .done))))))))))))))) (.cond (.seq .leaf .leaf) .leaf)) (.draw (.early 0 (.early 1 (.early 2 (.early 3 (.early 4 (.early 5 (.early 6 (.early 7 (.early 8 (.early 9 (.fork [(10, .done)]))))))))))))))) .leaf))))) (.seq (.seq .leaf (.block (.loop [(.t 13, (.int .i64))] [0, 1] (.seq (.seq .leaf (.cond .leaf .leaf)) (.seq (.block .leaf) .leaf))))) (.seq .leaf (.seq .leaf (.cut [] [0, 1, 2] (.seq .leaf (.cond (.seq .leaf .leaf) .leaf)) (.seq (.seq .leaf (.block (.loop [(.t 16, (.int .i64))] [0, 1, 2] (.seq (.seq .leaf (.cond .leaf .leaf)) (.seq (.block (.seq .leaf (.cond (.seq .leaf .leaf) .leaf))) .leaf))))) (.seq .leaf .leaf)))))))))))))))))
/-- weir/weirlaw5.LinkWrites -/
def a7 : Ann := (.seq .leaf (.seq (.seq .leaf (.cond (.seq .leaf .leaf) .leaf)) (.seq .leaf (.seq .leaf (.seq .leaf (.seq .leaf (.seq .leaf (.seq .leaf (.seq .leaf (.seq .leaf (.seq .leaf (.seq .leaf (.cut [] [0, 1] (.seq .leaf (.cond (.seq .leaf .leaf) .leaf)) (.seq (.seq .leaf (.block (.loop [(.t 13, (.int .i64))] [0, 1] (.seq (.seq .leaf (.cond .leaf .leaf)) (.seq (.block .leaf) .leaf))))) (.seq .leaf (.seq .leaf (.cut [] [0, 1] (.seq .leaf (.cond (.seq .leaf .leaf) .leaf)) (.seq (.seq .leaf (.block (.loop [(.t 16, (.int .i64))] [0, 1] (.seq (.seq .leaf (.cond .leaf .leaf)) (.seq (.block (.seq .leaf (.cond (.seq .leaf .leaf) .leaf))) .leaf))))) (.seq .leaf .leaf)))))))))))))))))))
/-- weir/weirlaw5.LinkOne -/
def a8 : Ann := (.seq .leaf (.seq .leaf (.seq .leaf (.seq (.seq .leaf (.cond (.seq .leaf .leaf) .leaf)) (.seq (.seq .leaf (.cond (.seq .leaf .leaf) .leaf)) (.seq .leaf (.seq .leaf .leaf)))))))
/-- weir/weirlaw5.LinkBack -/
def a9 : Ann := (.seq .leaf (.seq .leaf (.seq .leaf (.cut [] [0] (.seq .leaf (.cond (.seq .leaf .leaf) .leaf)) (.seq (.seq .leaf (.cond (.seq .leaf .leaf) .leaf)) (.seq .leaf (.seq .leaf .leaf)))))))
/-- weir/weirlaw5.LinkLent -/
def a10 : Ann := (.seq .leaf (.seq (.seq .leaf (.cond (.seq .leaf .leaf) .leaf)) (.seq .leaf (.seq .leaf (.seq .leaf (.seq .leaf (.seq .leaf (.seq (.seq .leaf (.block (.loop [(.t 10, (.slice 22)), (.t 11, (.slice 48)), (.t 12, (.int .i64))] [0, 1] (.seq (.seq .leaf (.cond .leaf .leaf)) (.cut [(.t 10, (.slice 22)), (.t 11, (.slice 48))] [0, 1] (.block (.seq .leaf (.seq .leaf (.seq .leaf (.seq .leaf (.seq .leaf (.seq .leaf (.seq .leaf (.seq .leaf (.seq .leaf (.cut [] [0, 1, 2, 3] (.seq .leaf (.cond (.seq .leaf .leaf) .leaf)) (.seq .leaf .leaf)))))))))))) .leaf))))) (.cut [] [0, 1] (.seq .leaf (.cond (.seq .leaf .leaf) .leaf)) (.seq .leaf (.seq (.seq .leaf (.block (.loop [(.t 33, (.int .i64))] [0, 1] (.seq (.seq .leaf (.cond .leaf .leaf)) (.seq (.block (.seq .leaf (.block (.loop [(.t 34, (.int .i64))] [0, 1] (.seq (.seq .leaf (.cond .leaf .leaf)) (.seq (.block .leaf) .leaf)))))) .leaf))))) (.seq (.seq .leaf (.block (.loop [(.t 32, (.slice 48)), (.t 35, (.int .i64))] [0, 1] (.seq (.seq .leaf (.cond .leaf .leaf)) (.seq (.block (.seq .leaf (.seq (.seq .leaf (.block (.loop [(.t 36, (.slice 57)), (.t 37, (.int .i64))] [0, 1] (.seq (.seq .leaf (.cond .leaf .leaf)) (.seq (.block .leaf) .leaf))))) .leaf))) .leaf))))) (.seq (.seq .leaf (.block (.loop [(.t 38, (.int .i64))] [0, 1] (.seq (.seq .leaf (.cond .leaf .leaf)) (.seq (.block (.seq .leaf (.block (.loop [(.t 39, (.int .i64))] [0, 1] (.seq (.seq .leaf (.cond .leaf .leaf)) (.cut [] [0, 1] (.block (.seq .leaf (.cond (.seq .leaf .leaf) .leaf))) .leaf)))))) .leaf))))) (.seq .leaf (.seq .leaf (.seq .leaf .leaf))))))))))))))))
/-- weir/weirlaw5.LinkAgain -/
def a11 : Ann := (.seq .leaf (.seq (.seq .leaf (.cond (.seq .leaf .leaf) .leaf)) (.seq .leaf (.cut [(.t 0, (.slice 5))] [0] (.seq .leaf (.cond .leaf .leaf)) (.seq .leaf (.seq (.seq .leaf (.block (.loop [(.t 9, (.int .i64))] [0, 1] (.cut [] [0, 1] (.seq .leaf (.cond .leaf .leaf)) (.cut [] [0, 1] (.block (.seq .leaf (.seq .leaf (.seq .leaf (.cut [] [0, 1, 2, 3, 4] (.seq .leaf (.cond (.seq .leaf .leaf) .leaf)) (.seq .leaf (.seq .leaf (.cut [] [0, 1, 2, 3, 4, 5, 6] (.seq .leaf (.cond (.seq .leaf .leaf) .leaf)) (.seq .leaf (.seq .leaf (.cut [] [0, 1, 2, 3, 4, 5, 6] (.seq .leaf (.cond (.seq .leaf .leaf) .leaf)) (.seq .leaf (.cond (.draw (.early 0 (.early 1 (.early 2 (.early 3 (.early 4 (.early 5 (.fork [(6, .done)])))))))) .leaf))))))))))))) .leaf))))) (.seq .leaf .leaf)))))))
/-- weir/weirlaw5.LinkLong -/
def a12 : Ann := (.seq .leaf (.seq (.seq .leaf (.cond (.seq .leaf .leaf) .leaf)) (.seq .leaf (.seq .leaf (.seq (.seq .leaf (.block (.loop [(.t 6, (.int .i64))] [] (.seq (.seq .leaf (.cond .leaf .leaf)) (.seq (.block .leaf) .leaf))))) (.seq .leaf (.seq .leaf (.seq .leaf (.seq .leaf (.cut [] [0, 1] (.seq .leaf (.cond (.seq .leaf .leaf) .leaf)) (.seq (.seq .leaf (.cond (.seq .leaf .leaf) .leaf)) (.seq (.draw (.early 0 (.early 1 (.early 2 (.early 3 (.early 4 (.early 5 (.early 6 (.early 7 (.early 8 (.early 9 (.early 10 (.early 11 (.early 12 (.early 13 (.early 14 (.fork [(15, (.early 16 (.early 17 (.early 18 (.early 19 (.fork [(20, (.early 21 (.early 22 .done)))]))))))]))))))))))))))))) .leaf))))))))))))
/-- weir/link.Pad -/
def a13 : Ann := (.seq .leaf (.seq .leaf .leaf))
/-- weir/link.Group -/
def a14 : Ann := (.seq .leaf (.seq .leaf .leaf))
/-- weir/weirref5.Group -/
def a15 : Ann := (.seq .leaf (.seq .leaf .leaf))
/-- weir/weirlaw5.laid -/
def a16 : Ann := (.seq .leaf (.cut [(.t 0, (.slice 5))] [] (.seq .leaf (.cond .leaf .leaf)) (.seq .leaf (.seq .leaf (.seq .leaf (.seq .leaf .leaf))))))
/-- weir/weirlaw5.copied -/
def a17 : Ann := (.seq .leaf (.seq .leaf (.seq .leaf .leaf)))
/-- weir/weirref5.Pad -/
def a18 : Ann := (.seq .leaf (.seq .leaf (.seq (.block (.loop [(.t 3, (.slice 5))] [] (.seq (.seq .leaf (.cond .leaf .leaf)) (.block .leaf)))) (.seq .leaf .leaf))))
/-- weir/weirlaw5.same -/
def a19 : Ann := (.seq .leaf (.seq (.seq .leaf (.cond (.seq .leaf .leaf) .leaf)) (.seq (.seq .leaf (.block (.loop [(.t 5, (.int .i64))] [] (.seq (.seq .leaf (.cond .leaf .leaf)) (.seq (.block (.seq (.draw (.early 0 (.early 1 (.early 2 (.early 3 (.early 4 (.early 5 (.early 6 (.early 7 (.early 8 .done)))))))))) (.cond (.seq .leaf .leaf) .leaf))) .leaf))))) (.seq .leaf .leaf))))
/-- weir/link.PutArp -/
def a20 : Ann := (.seq .leaf (.seq (.seq .leaf (.seq .leaf (.cond (.seq .leaf .leaf) .leaf))) (.seq (.seq .leaf (.block (.loop [(.t 21, (.int .i64))] [0] (.seq .leaf (.seq (.cond .leaf .leaf) (.seq (.block (.seq .leaf (.seq (.drawF [1] (.early 0 (.early 1 (.fork [(2, (.fork [(3, (.early 4 .done))]))])))) (.cond (.seq .leaf .leaf) .leaf)))) .leaf)))))) (.seq .leaf (.seq (.drawF [0] (.early 0 (.early 1 (.early 4 (.early 5 (.fork [(2, (.fork [(3, (.fork [(6, (.fork [(7, (.early 8 .done))]))])), (6, (.fork [(3, (.fork [(7, (.early 8 .done))]))]))])), (6, (.fork [(2, (.fork [(3, (.fork [(7, (.early 8 .done))]))]))]))])))))) (.seq (.draw (.early 0 (.early 1 (.early 4 (.early 5 (.fork [(2, (.fork [(3, (.fork [(6, (.fork [(7, (.early 8 (.early 9 .done)))]))])), (6, (.fork [(3, (.fork [(7, (.early 8 (.early 9 .done)))]))]))])), (6, (.fork [(2, (.fork [(3, (.fork [(7, (.early 8 (.early 9 .done)))]))]))]))])))))) .leaf))))))
/-- weir/weirlaw5.ask -/
def a21 : Ann := (.seq .leaf (.seq .leaf .leaf))
/-- weir/link.ParseArp -/
def a22 : Ann := (.seq .leaf (.seq (.block (.seq .leaf (.cond (.seq .leaf .leaf) (.seq .leaf (.cond (.seq .leaf .leaf) (.seq .leaf (.cond (.seq .leaf .leaf) .leaf))))))) (.seq .leaf (.seq (.draw (.early 0 (.early 1 (.early 2 (.early 3 (.early 4 (.early 5 (.early 6 (.early 7 (.early 9 (.early 10 (.early 11 (.early 12 (.early 13 (.early 14 (.fork [(8, (.fork [(15, (.early 16 (.fork [(17, (.fork [(18, .done)]))]))), (17, (.fork [(15, (.early 16 (.fork [(18, .done)])))]))])), (17, (.fork [(8, (.fork [(15, (.early 16 (.fork [(18, .done)])))]))]))])))))))))))))))) (.seq (.seq .leaf (.seq .leaf (.cond (.seq .leaf .leaf) .leaf))) (.seq .leaf .leaf))))))
/-- weir/weirref5.ParseArp -/
def a23 : Ann := (.seq .leaf (.seq .leaf (.seq (.seq .leaf (.cond (.seq .leaf .leaf) .leaf)) (.seq (.seq .leaf (.cond (.seq .leaf .leaf) .leaf)) (.seq (.seq .leaf (.cond (.seq .leaf .leaf) .leaf)) (.seq .leaf (.seq (.seq .leaf (.block (.loop [(.t 6, (.int .i64)), (.b 2, (.struct false [(.int .i64), (.arr .u8 6), (.struct false [(.int .i64), (.arr .u8 16)]), (.arr .u8 6), (.struct false [(.int .i64), (.arr .u8 16)])]))] [0, 1] (.seq (.seq .leaf (.cond .leaf .leaf)) (.seq (.block (.seq .leaf .leaf)) .leaf))))) (.seq (.seq .leaf (.block (.loop [(.t 7, (.int .i64)), (.b 2, (.struct false [(.int .i64), (.arr .u8 6), (.struct false [(.int .i64), (.arr .u8 16)]), (.arr .u8 6), (.struct false [(.int .i64), (.arr .u8 16)])]))] [0, 1] (.seq (.seq .leaf (.cond .leaf .leaf)) (.seq (.block (.seq .leaf .leaf)) .leaf))))) (.cut [(.b 0, (.struct false [(.int .i64), (.arr .u8 6), (.struct false [(.int .i64), (.arr .u8 16)]), (.arr .u8 6), (.struct false [(.int .i64), (.arr .u8 16)])]))] [1, 2] (.seq .leaf (.cond (.seq .leaf .leaf) .leaf)) (.seq (.seq .leaf (.cond (.seq .leaf .leaf) .leaf)) (.seq .leaf .leaf)))))))))))
/-- weir/weirref5.PutArp -/
def a24 : Ann := (.seq .leaf (.cut [] [0] (.seq .leaf (.cond (.seq .leaf .leaf) .leaf)) (.seq (.seq .leaf (.cond (.seq .leaf .leaf) .leaf)) (.cut [] [0] (.seq .leaf (.cond (.seq .leaf .leaf) .leaf)) (.seq .leaf (.seq (.seq .leaf (.block (.loop [(.t 4, (.slice 5)), (.t 5, (.int .i64))] [0] (.seq (.seq .leaf (.cond .leaf .leaf)) (.seq (.block .leaf) .leaf))))) (.seq .leaf (.seq (.seq .leaf (.block (.loop [(.t 4, (.slice 5)), (.t 6, (.int .i64))] [0] (.seq (.seq .leaf (.cond .leaf .leaf)) (.seq (.block .leaf) .leaf))))) (.seq .leaf .leaf)))))))))
/-- weir/weirlaw5.awake -/
def a25 : Ann := (.seq .leaf (.seq (.seq .leaf (.cond (.seq .leaf .leaf) .leaf)) (.seq .leaf (.seq .leaf (.seq .leaf (.seq .leaf .leaf))))))
/-- weir/link.Parse -/
def a26 : Ann := (.seq .leaf (.seq (.block (.seq .leaf (.cond (.seq .leaf .leaf) (.seq .leaf (.cond (.seq .leaf .leaf) .leaf))))) (.seq (.draw (.early 0 (.early 1 (.early 2 (.early 3 (.early 4 (.early 5 (.early 6 (.early 7 (.early 8 (.fork [(9, (.fork [(10, .done)]))]))))))))))) (.seq (.seq .leaf (.cond (.seq .leaf .leaf) .leaf)) (.seq .leaf (.seq .leaf (.seq (.block (.loop [(.t 5, (.int .i64)), (.b 0, (.struct false [(.arr .u8 6), (.arr .u8 6), (.slice 57), (.int .i64), (.slice 5)])), (.b 1, (.struct false [(.arr .u8 6), (.arr .u8 6), (.slice 57), (.int .i64), (.slice 5)]))] [] (.block (.seq .leaf (.cut [(.b 0, (.struct false [(.arr .u8 6), (.arr .u8 6), (.slice 57), (.int .i64), (.slice 5)])), (.b 1, (.struct false [(.arr .u8 6), (.arr .u8 6), (.slice 57), (.int .i64), (.slice 5)]))] [] (.block (.seq .leaf (.cond (.seq .leaf .leaf) (.cut [(.t 41, .bool)] [0, 1] .leaf (.cond (.seq .leaf .leaf) (.seq .leaf (.cond (.seq .leaf .leaf) .leaf))))))) (.seq .leaf (.seq .leaf (.seq (.seq .leaf (.cond (.seq .leaf .leaf) .leaf)) (.seq .leaf .leaf))))))))) (.seq (.seq .leaf (.cond (.seq .leaf .leaf) .leaf)) (.seq .leaf (.seq .leaf .leaf))))))))))
/-- weir/weirref5.Parse -/
def a27 : Ann := (.seq .leaf (.seq .leaf (.seq (.seq .leaf (.cond (.seq .leaf .leaf) .leaf)) (.seq (.seq .leaf (.cond (.seq .leaf .leaf) .leaf)) (.seq .leaf (.seq (.seq .leaf (.block (.loop [(.t 6, (.int .i64)), (.b 2, (.struct false [(.arr .u8 6), (.arr .u8 6), (.slice 57), (.int .i64), (.slice 5)]))] [0, 1] (.seq (.seq .leaf (.cond .leaf .leaf)) (.seq (.block (.seq .leaf .leaf)) .leaf))))) (.seq (.seq .leaf (.cond (.seq .leaf .leaf) .leaf)) (.seq .leaf (.cut [(.t 7, (.int .i64)), (.b 0, (.struct false [(.arr .u8 6), (.arr .u8 6), (.slice 57), (.int .i64), (.slice 5)])), (.b 2, (.struct false [(.arr .u8 6), (.arr .u8 6), (.slice 57), (.int .i64), (.slice 5)]))] [1] (.block (.loop [(.t 7, (.int .i64)), (.b 0, (.struct false [(.arr .u8 6), (.arr .u8 6), (.slice 57), (.int .i64), (.slice 5)])), (.b 2, (.struct false [(.arr .u8 6), (.arr .u8 6), (.slice 57), (.int .i64), (.slice 5)]))] [1] (.cut [] [0, 1, 2] (.seq .leaf (.cond .leaf .leaf)) (.block (.cut [(.b 0, (.struct false [(.arr .u8 6), (.arr .u8 6), (.slice 57), (.int .i64), (.slice 5)]))] [1, 2] (.seq .leaf (.cond (.seq .leaf .leaf) .leaf)) (.seq (.seq .leaf (.cond (.seq .leaf .leaf) .leaf)) (.seq .leaf (.seq .leaf (.seq (.seq .leaf (.cond (.seq .leaf .leaf) .leaf)) (.seq .leaf .leaf)))))))))) (.seq .leaf (.seq (.seq .leaf (.cond (.seq .leaf .leaf) .leaf)) (.seq .leaf (.seq .leaf .leaf)))))))))))))
/-- weir/weirref5.Same -/
def a28 : Ann := (.seq .leaf (.cut [] [0, 1] (.seq .leaf (.cond (.seq .leaf .leaf) .leaf)) (.seq (.seq .leaf (.block (.loop [(.t 5, (.int .i64))] [0, 1] (.seq (.seq .leaf (.cond .leaf .leaf)) (.seq (.block (.seq (.draw (.early 0 (.early 1 (.early 2 (.early 3 (.early 4 (.early 5 (.early 6 (.early 7 (.early 8 (.early 9 (.early 10 .done)))))))))))) (.cond (.seq .leaf .leaf) .leaf))) .leaf))))) (.seq (.seq .leaf (.block (.loop [(.t 6, (.int .i64))] [0, 1] (.seq (.seq .leaf (.cond .leaf .leaf)) (.seq (.block (.seq (.draw (.early 0 (.early 1 (.early 2 (.early 3 (.early 4 (.early 5 (.early 6 (.early 7 (.early 8 (.early 9 (.early 10 .done)))))))))))) (.cond (.seq .leaf .leaf) .leaf))) .leaf))))) (.seq .leaf .leaf)))))
/-- weir/weirlaw5.frame -/
def a29 : Ann := (.seq .leaf (.cut [(.b 0, (.struct false [(.arr .u8 6), (.arr .u8 6), (.slice 57), (.int .i64), (.slice 5)]))] [1] (.seq .leaf (.cond .leaf .leaf)) (.seq .leaf (.seq .leaf (.seq .leaf (.seq .leaf .leaf))))))
/-- weir/link.Check -/
def a30 : Ann := (.seq .leaf (.seq (.seq .leaf (.cond (.seq .leaf .leaf) .leaf)) (.seq (.seq .leaf (.cond (.seq .leaf .leaf) .leaf)) (.seq (.seq .leaf (.block (.loop [(.t 17, (.int .i64))] [0] (.seq .leaf (.seq (.cond .leaf .leaf) (.seq (.block (.seq .leaf (.seq .leaf (.cond (.seq .leaf .leaf) .leaf)))) .leaf)))))) (.seq (.seq .leaf (.block (.loop [(.t 39, (.int .i64))] [0] (.seq .leaf (.seq (.cond .leaf .leaf) (.seq (.block (.seq .leaf (.seq .leaf (.cond (.seq .leaf .leaf) .leaf)))) .leaf)))))) (.cut [] [0] (.seq .leaf (.cond (.seq .leaf .leaf) .leaf)) (.seq (.seq .leaf (.cond (.seq .leaf .leaf) .leaf)) (.seq .leaf .leaf))))))))
/-- weir/link.Serialise -/
def a31 : Ann := (.seq .leaf (.seq (.seq .leaf (.seq .leaf (.cond (.seq .leaf .leaf) .leaf))) (.seq (.drawF [0] (.early 0 (.early 3 (.fork [(1, (.fork [(2, (.fork [(4, (.fork [(5, (.early 6 .done))]))])), (4, (.fork [(2, (.fork [(5, (.early 6 .done))]))]))])), (4, (.fork [(1, (.fork [(2, (.fork [(5, (.early 6 .done))]))]))]))])))) (.seq (.seq .leaf (.block (.loop [(.t 5, (.slice 5)), (.t 23, (.int .i64))] [] (.seq .leaf (.seq (.cond .leaf .leaf) (.seq (.block (.seq .leaf (.seq .leaf (.cut [(.t 8, (.int .i64))] [1] (.seq .leaf (.cond .leaf .leaf)) .leaf)))) .leaf)))))) (.seq (.draw (.early 0 (.early 1 (.early 2 (.early 4 (.early 5 (.fork [(3, (.fork [(6, (.early 7 (.early 8 .done)))]))]))))))) .leaf)))))
/-- weir/weirref5.Serialise -/
def a32 : Ann := (.seq .leaf (.seq .leaf (.seq (.seq .leaf (.cond (.seq .leaf .leaf) .leaf)) (.seq .leaf (.seq (.seq .leaf (.block (.loop [(.t 5, (.slice 5)), (.t 6, (.int .i64))] [0] (.seq (.seq .leaf (.cond .leaf .leaf)) (.seq (.block .leaf) .leaf))))) (.seq (.seq .leaf (.block (.loop [(.t 5, (.slice 5)), (.t 7, (.int .i64))] [0] (.seq (.seq .leaf (.cond .leaf .leaf)) (.seq (.block .leaf) .leaf))))) (.seq (.seq .leaf (.block (.loop [(.t 5, (.slice 5)), (.t 8, (.int .i64))] [0] (.seq (.seq .leaf (.cond .leaf .leaf)) (.cut [(.t 5, (.slice 5))] [0] (.block (.seq .leaf (.seq .leaf (.cut [(.t 10, (.int .i64))] [0, 1] (.seq .leaf (.cond .leaf .leaf)) (.seq .leaf .leaf))))) .leaf))))) (.seq .leaf (.seq .leaf .leaf)))))))))
/-- weir/weirlaw5.small -/
def a33 : Ann := (.seq .leaf (.seq .leaf .leaf))
/-- weir/weirlaw2.Apart -/
def a34 : Ann := (.seq .leaf (.seq .leaf (.seq (.seq .leaf (.block (.loop [(.t 3, (.int .i64)), (.t 4, (.int .i64))] [] (.seq (.seq .leaf (.cond .leaf .leaf)) (.seq (.block (.seq .leaf (.seq .leaf (.block (.loop [(.t 5, (.int .i64))] [] (.seq (.seq .leaf (.cond .leaf .leaf)) (.seq (.block .leaf) .leaf))))))) .leaf))))) (.seq .leaf (.seq (.seq .leaf (.block (.loop [(.t 6, (.slice 22)), (.t 7, (.int .i64))] [] (.seq (.seq .leaf (.cond .leaf .leaf)) (.seq (.block (.seq .leaf (.seq (.seq .leaf (.block (.loop [(.t 8, (.slice 5)), (.t 9, (.int .i64))] [] (.seq (.seq .leaf (.cond .leaf .leaf)) (.seq (.block .leaf) .leaf))))) .leaf))) .leaf))))) (.seq (.seq .leaf (.block (.loop [(.t 10, (.int .i64))] [] (.seq (.seq .leaf (.cond .leaf .leaf)) (.cut [] [] (.block (.seq (.draw (.early 0 (.early 1 (.early 2 (.early 3 (.early 4 (.early 5 (.early 6 (.early 7 (.fork [(8, (.early 9 (.early 10 (.early 11 (.early 12 (.early 13 (.early 14 (.early 15 (.early 16 (.early 17 (.early 18 (.fork [(19, (.early 20 (.early 21 (.early 22 (.early 23 (.early 24 (.early 25 (.early 26 (.early 27 (.early 28 (.early 29 (.early 30 (.early 31 (.early 32 (.early 33 (.early 34 (.early 35 (.early 36 .done))))))))))))))))))]))))))))))))])))))))))) (.cond (.seq .leaf .leaf) .leaf))) .leaf))))) (.seq .leaf .leaf)))))))
/-- weir/weirlaw5.wideFrame -/
def a35 : Ann := (.seq .leaf (.seq .leaf (.seq (.seq .leaf (.block (.loop [(.t 3, (.slice 57)), (.t 4, (.int .i64))] [0, 1] (.seq (.seq .leaf (.cond .leaf .leaf)) (.seq (.block .leaf) .leaf))))) (.seq .leaf (.seq .leaf (.seq .leaf .leaf))))))
/-- weir/weirlaw2.Wide -/
def a36 : Ann := (.seq .leaf (.seq .leaf (.seq .leaf (.seq (.seq .leaf (.block (.loop [(.t 4, (.int .i64))] [] (.seq (.seq .leaf (.cond .leaf .leaf)) (.seq (.block .leaf) .leaf))))) (.seq .leaf .leaf)))))
/-- weir/weirlaw5.frameStands -/
def a37 : Ann := (.seq .leaf (.seq .leaf (.cut [] [0, 1] (.seq .leaf (.cond (.seq .leaf .leaf) .leaf)) (.seq .leaf (.seq (.seq .leaf (.block (.loop [(.t 7, (.int .i64))] [0, 1] (.seq (.seq .leaf (.cond .leaf .leaf)) (.cut [] [0, 1] (.block (.seq (.draw (.early 0 (.early 1 (.early 2 (.early 3 (.early 4 (.early 5 (.early 6 (.early 7 (.early 8 (.early 9 (.early 10 (.early 11 (.early 12 (.early 13 (.early 14 (.early 15 (.early 16 (.early 17 (.early 18 (.early 19 (.early 20 (.early 21 (.early 22 (.early 23 (.early 24 (.early 25 (.early 26 (.early 27 (.early 28 (.early 29 (.early 30 (.early 31 .done))))))))))))))))))))))))))))))))) (.cond (.seq .leaf .leaf) .leaf))) .leaf))))) (.seq .leaf .leaf))))))
/-- weir/weirlaw2.WideStands -/
def a38 : Ann := (.seq .leaf (.seq (.seq .leaf (.cond (.seq .leaf .leaf) .leaf)) (.seq .leaf (.seq (.seq .leaf (.block (.loop [(.t 6, (.int .i64))] [] (.seq (.seq .leaf (.cond .leaf .leaf)) (.cut [] [] (.block (.seq (.draw (.early 0 (.early 1 (.early 2 (.early 3 (.early 4 (.early 5 (.early 6 (.early 7 (.early 8 (.early 9 (.early 10 (.early 11 (.early 12 (.early 13 (.early 14 (.early 15 (.early 16 (.early 17 (.early 18 (.early 19 (.early 20 (.early 21 (.early 22 (.early 23 (.early 24 (.early 25 (.early 26 (.early 27 (.early 28 (.fork [(29, (.early 30 (.early 31 (.early 32 .done))))]))))))))))))))))))))))))))))))) (.cond (.seq .leaf .leaf) .leaf))) .leaf))))) (.seq .leaf .leaf)))))
/-- weir/weirlaw5.turned -/
def a39 : Ann := (.seq .leaf (.cut [] [0, 1] (.seq .leaf (.cond (.draw (.early 0 (.early 1 (.early 2 (.early 3 (.early 4 (.early 6 (.early 7 (.early 8 (.fork [(5, (.early 9 (.fork [(10, .done)])))])))))))))) .leaf)) (.cut [] [0, 1] (.seq .leaf (.cond (.draw (.early 0 (.early 1 (.early 2 (.early 3 (.early 4 (.early 5 (.early 6 (.early 8 (.early 9 (.early 10 (.fork [(7, (.early 11 (.fork [(12, .done)])))])))))))))))) .leaf)) (.seq .leaf (.cond (.seq (.draw (.early 0 (.early 1 (.early 2 (.early 3 (.early 4 (.early 5 (.early 6 (.fork [(7, (.early 8 (.early 9 .done)))]))))))))) (.seq .leaf (.block (.seq .leaf (.cond .leaf (.seq .leaf (.cond .leaf (.seq .leaf (.cond .leaf (.seq .leaf (.cond .leaf .leaf))))))))))) .leaf)))))
/-- slices.Clone[[]byte,byte] -/
def a40 : Ann := (.seq .leaf (.seq (.seq .leaf (.cond (.seq .leaf .leaf) .leaf)) (.seq .leaf .leaf)))
/-- weir/weirref1.Part -/
def a41 : Ann := (.seq .leaf (.seq .leaf (.seq (.seq .leaf (.block (.loop [(.t 7, (.slice 5)), (.t 8, (.int .i64))] [] (.seq (.seq .leaf (.cond .leaf .leaf)) (.seq (.block .leaf) .leaf))))) (.seq .leaf .leaf))))
/-- weir/link.checkArp -/
def a42 : Ann := (.seq .leaf (.cut [] [0] (.seq .leaf (.cond (.seq .leaf .leaf) .leaf)) (.seq (.seq .leaf (.cond (.seq .leaf .leaf) .leaf)) (.seq .leaf .leaf))))
/-- weir/link.ip4 -/
def a43 : Ann := (.seq .leaf (.seq (.draw (.early 0 (.early 1 (.early 2 (.early 3 (.early 4 (.early 5 (.early 6 (.early 7 (.early 8 (.early 9 (.early 10 (.early 11 (.early 12 (.early 13 (.fork [(14, .done)])))))))))))))))) .leaf))
/-- weir/link.put -/
def a44 : Ann := (.seq .leaf (.seq .leaf .leaf))
/-- weir/view.Uint -/
def a45 : Ann := (.seq .leaf (.seq (.seq .leaf (.cond (.seq .leaf .leaf) .leaf)) (.seq .leaf (.seq .leaf .leaf))))
/-- weir/weirref5.num -/
def a46 : Ann := (.seq .leaf (.seq (.draw (.early 0 (.early 1 (.early 2 (.early 3 (.early 4 (.early 5 (.early 6 (.early 7 (.early 8 (.early 9 (.early 10 (.early 11 (.early 12 (.early 13 .done))))))))))))))) .leaf))
/-- weir/weirref5.sender -/
def a47 : Ann := (.seq .leaf (.seq .leaf .leaf))
/-- weir/weirref4.Valid -/
def a48 : Ann := (.seq .leaf (.seq (.seq .leaf (.cond (.seq .leaf .leaf) .leaf)) (.seq (.seq .leaf (.block (.loop [(.t 3, (.int .i64))] [0] (.seq (.seq .leaf (.cond .leaf .leaf)) (.seq (.block (.seq .leaf (.cond (.seq .leaf .leaf) .leaf))) .leaf))))) (.seq .leaf .leaf))))
/-- weir/weirlaw5.firsts -/
def a49 : Ann := (.seq .leaf (.seq .leaf (.seq .leaf (.seq (.draw (.early 0 (.early 2 (.fork [(1, (.fork [(3, (.early 4 (.early 5 (.early 6 (.early 8 (.fork [(7, (.fork [(9, (.early 10 (.early 11 (.early 12 .done))))]))]))))))]))])))) .leaf))))
/-- weir/link.two -/
def a50 : Ann := (.seq .leaf (.seq (.draw (.early 0 (.early 1 (.early 2 (.early 3 (.early 4 (.early 5 (.early 6 (.early 7 (.early 8 (.early 9 (.early 10 (.early 11 (.early 12 (.early 13 .done))))))))))))))) .leaf))
/-- weir/link.isTag -/
def a51 : Ann := (.seq .leaf (.seq .leaf .leaf))
/-- weir/weirref5.Check -/
def a52 : Ann := (.seq .leaf (.seq (.seq .leaf (.cond (.seq .leaf .leaf) .leaf)) (.seq .leaf (.seq (.seq .leaf (.cond (.seq .leaf .leaf) .leaf)) (.seq (.seq .leaf (.block (.loop [(.t 4, (.int .i64))] [0] (.seq (.seq .leaf (.cond .leaf .leaf)) (.cut [] [0] (.block (.seq .leaf (.seq .leaf (.cond (.seq .leaf .leaf) .leaf)))) .leaf))))) (.cut [] [0] (.seq .leaf (.cond (.seq .leaf .leaf) .leaf)) (.seq (.seq .leaf (.cond (.seq .leaf .leaf) .leaf)) (.seq .leaf .leaf))))))))
/-- weir/weirref5.two -/
def a53 : Ann := (.seq .leaf (.seq .leaf .leaf))
/-- weir/weirlaw2.full -/
def a54 : Ann := (.seq .leaf (.seq (.seq .leaf (.block (.loop [(.t 5, (.int .i64))] [] (.seq (.seq .leaf (.cond .leaf .leaf)) (.seq (.block (.seq .leaf (.cond (.seq .leaf .leaf) .leaf))) .leaf))))) (.seq .leaf .leaf)))
/-- weir/weirlaw2.behind -/
def a55 : Ann := (.seq .leaf (.seq .leaf .leaf))
/-- weir/weirlaw2.Place -/
def a56 : Ann := (.seq .leaf (.seq .leaf .leaf))
/-- weir/view.sized -/
def a57 : Ann := (.seq .leaf (.seq .leaf .leaf))
/-- weir/view.Uint$1 -/
def a58 : Ann := (.seq .leaf (.cond .leaf .leaf))
/-- weir/view.number -/
def a59 : Ann := (.seq .leaf (.cut [] [] (.seq .leaf (.cond .leaf .leaf)) (.seq .leaf (.seq (.seq .leaf (.block (.loop [(.t 7, (.int .u64)), (.t 20, (.int .i64))] [] (.seq .leaf (.seq (.cond .leaf .leaf) (.seq (.block (.seq .leaf .leaf)) .leaf)))))) (.seq .leaf .leaf)))))
/-- weir/weirref5.tpids -/
def a60 : Ann := (.seq .leaf (.seq (.seq .leaf (.cond (.seq .leaf .leaf) .leaf)) (.seq (.seq .leaf (.block (.loop [(.t 3, (.int .i64))] [] (.seq (.seq .leaf (.cond .leaf .leaf)) (.cut [] [] (.block (.seq .leaf (.cond (.seq .leaf .leaf) .leaf))) .leaf))))) (.seq .leaf .leaf))))
/-- weir/view.look -/
def a61 : Ann := (.seq .leaf (.cut [] [] (.seq .leaf (.cond .leaf .leaf)) (.seq .leaf .leaf)))
end Go.Vc.S5
end

section
namespace Go.Vc
open Go.RowKit (Below)
set_option linter.unusedVariables false
set_option linter.unusedSimpArgs false
set_option autoImplicit false

/-! ### frames -/
theorem Upd.below {m n : List Nat} {w w1 : World} (h : Upd m n w w1) (hm : ∀ b ∈ m, w.heap.size ≤ b) : Below w.heap.size w w1 :=
  ⟨h.os, h.tape, h.output, h.size, fun k hk => h.keep k hk (fun e => by have := hm k e; omega)⟩
theorem Upd.ofBelow {w w1 : World} (h : Below w.heap.size w w1) : Upd [] [] w w1 := ⟨h.os, h.tape, h.output, h.size, fun k hk _ => h.block k hk, by simp⟩
/-- nothing old is written: w is what it was, but for blocks from w0's size on -/
theorem Upd.step {m n m' n' : List Nat} {w0 w w1 : World} (h : Upd m n w0 w) (k : Upd m' n' w w1) (hm : ∀ b ∈ m', w0.heap.size ≤ b ∨ b ∈ m) : Upd m [] w0 w1 where
  os := k.os.trans h.os
  tape := k.tape.trans h.tape
  output := k.output.trans h.output
  size := Nat.le_trans h.size k.size
  keep b hb hn := by
    have h1 := h.size
    rw [k.keep b (by omega) (fun e => by rcases hm b e with h | h; omega; exact hn h), h.keep b hb hn]
  news := by simp
theorem Upd.step0 {n m' n' : List Nat} {w0 w w1 : World} (h : Upd [] n w0 w) (k : Upd m' n' w w1) (hm : ∀ b ∈ m', w0.heap.size ≤ b) : Upd [] [] w0 w1 :=
  h.step k (fun b hb => .inl (hm b hb))
theorem Upd.then {n n' : List Nat} {w0 w w1 : World} (h : Upd [] n w0 w) (k : Upd [] n' w w1) : Upd [] [] w0 w1 := h.step k (by simp)
theorem Upd.forget {m n : List Nat} {w w1 : World} (h : Upd m n w w1) : Upd m [] w w1 := h.mono (fun _ h => h) (by simp)
theorem Upd.wide {m m' n : List Nat} {w w1 : World} (h : Upd m n w w1) (hm : ∀ x ∈ m, x ∈ m') : Upd m' [] w w1 := h.mono hm (by simp)
theorem Upd.new {m n : List Nat} {w w1 : World} (h : Upd m n w w1) {b : Nat} (hb : b ∈ n) : w.heap.size ≤ b ∧ b < w1.heap.size := h.news b hb

theorem cell_of_block {w : World} {b e : Nat} {c : Array Value} {f : Nat × Nat} (h : w.heap[b]? = some (.cells c e f)) (i : Nat) : w.cell? ⟨b, i, none⟩ = c[i]? := by
  simp [World.cell?, h]
theorem frozen_of_block {w : World} {b e : Nat} {c : Array Value} (h : w.heap[b]? = some (.cells c e (0, 0))) (i : Nat) : w.frozen? ⟨b, i, none⟩ = false := by
  simp [World.frozen?, h]
theorem cell_lt {w : World} {a : Addr} {v : Value} (h : w.cell? a = some v) : a.block < w.heap.size := by
  unfold World.cell? at h
  split at h
  · rename_i hb
    exact (Array.getElem?_eq_some_iff.1 hb).1
  · cases h
theorem isSome_lt {w : World} {a : Addr} (h : (w.cell? a).isSome = true) : a.block < w.heap.size := by
  obtain ⟨v, hv⟩ := Option.isSome_iff_exists.1 h
  exact cell_lt hv
@[simp] theorem add_block (a : Addr) (n : Nat) : (a.add n).block = a.block := by unfold Addr.add; split <;> rfl
@[simp] theorem add_zero (a : Addr) : a.add 0 = a := by simp [Addr.add]
theorem add_none {b o n : Nat} : (⟨b, o, none⟩ : Addr).add n = ⟨b, o + n, none⟩ := by unfold Addr.add; split <;> simp_all
theorem spot_none {w : World} {a : Addr} (h : (w.cell? a).isSome = true) : a = ⟨a.block, a.off, none⟩ := by
  obtain ⟨v, hv⟩ := Option.isSome_iff_exists.1 h
  have := World.cell?_spot hv
  cases a; simp_all

theorem Upd.cell' {m n : List Nat} {w w1 : World} (h : Upd m n w w1) {a : Addr} (hs : (w.cell? a).isSome = true) (hm : a.block ∉ m) : w1.cell? a = w.cell? a := by
  obtain ⟨v, hv⟩ := Option.isSome_iff_exists.1 hs
  rw [hv]; exact h.cell hv hm
theorem Upd.frozen {m n : List Nat} {w w1 : World} (h : Upd m n w w1) {a : Addr} (hs : a.block < w.heap.size) (hm : a.block ∉ m) : w1.frozen? a = w.frozen? a := by
  simp only [World.frozen?, h.keep _ hs hm]

/-- cells written one behind the other -/
theorem Upd.setCells (w : World) (b o : Nat) (vs : List Value) : Upd [b] [] w (w.setCells b o vs) where
  os := (World.keptBut_setCells b (may := fun _ => True) vs o w (fun _ _ => trivial)).1
  tape := by
    have : ∀ (vs : List Value) (o : Nat) (w : World), (w.setCells b o vs).tape = w.tape := by
      intro vs
      induction vs with
      | nil => intro o w; rfl
      | cons v r ih => intro o w; rw [World.setCells, ih]; rfl
    exact this vs o w
  output := (World.keptBut_setCells b (may := fun _ => True) vs o w (fun _ _ => trivial)).2.1
  size := by
    have : ∀ (vs : List Value) (o : Nat) (w : World), (w.setCells b o vs).heap.size = w.heap.size := by
      intro vs
      induction vs with
      | nil => intro o w; rfl
      | cons v r ih => intro o w; rw [World.setCells, ih]; simp [World.setCell]
    rw [this]; exact Nat.le_refl _
  keep k hk hn := by
    have : ∀ (vs : List Value) (o : Nat) (w : World), (w.setCells b o vs).heap[k]? = w.heap[k]? := by
      intro vs
      induction vs with
      | nil => intro o w; rfl
      | cons v r ih =>
        intro o w
        rw [World.setCells, ih]
        exact Below.heap_setCell _ _ _ _ (by simp at hn; exact hn)
    exact this vs o w
  news := by simp

/-! ### what a slice holds -/
/-- how elements lie in cells -/
structure Cod (α : Type) where
  sz : Nat
  enc : α → List Value
  len : ∀ x, (enc x).length = sz
  one : ∀ x, ∀ v ∈ enc x, v.oneCell' = true

def Cod.cells {α : Type} (c : Cod α) (l : List α) : List Value := l.flatMap c.enc
@[simp] theorem Cod.cells_nil {α : Type} (c : Cod α) : c.cells [] = [] := rfl
theorem Cod.cells_cons {α : Type} (c : Cod α) (x : α) (l : List α) : c.cells (x :: l) = c.enc x ++ c.cells l := by simp [Cod.cells]
theorem Cod.cells_append {α : Type} (c : Cod α) (l m : List α) : c.cells (l ++ m) = c.cells l ++ c.cells m := by simp [Cod.cells]
theorem Cod.cells_length {α : Type} (c : Cod α) : ∀ (l : List α), (c.cells l).length = l.length * c.sz
  | [] => by simp
  | x :: l => by rw [Cod.cells_cons, List.length_append, c.len, Cod.cells_length c l, List.length_cons, Nat.add_mul]; omega
theorem Cod.cells_one {α : Type} (c : Cod α) (l : List α) : ∀ v ∈ c.cells l, v.oneCell' = true := fun v hv => by
  obtain ⟨x, _, hx⟩ := List.mem_flatMap.1 hv
  exact c.one x v hx
theorem mul_add_lt {i j n sz : Nat} (hi : i < n) (hj : j < sz) : i * sz + j < n * sz := by
  have h1 : (i + 1) * sz ≤ n * sz := Nat.mul_le_mul_right _ hi
  rw [Nat.add_mul] at h1
  omega
theorem Cod.cells_get {α : Type} (c : Cod α) : ∀ (l : List α) (i : Nat) (h : i < l.length) (j : Nat) (hj : j < (c.enc l[i]).length), (c.cells l)[i * c.sz + j]? = some (c.enc l[i])[j]
  | x :: l, 0, _, j, hj => by
    simp at hj
    rw [Cod.cells_cons]
    simp [List.getElem?_append_left, hj]
  | x :: l, i + 1, h, j, hj => by
    rw [Cod.cells_cons, List.getElem?_append_right (by rw [c.len, Nat.add_mul]; omega), c.len]
    have := Cod.cells_get c l i (by simpa using h) j (by simpa using hj)
    rw [show (i + 1) * c.sz + j - c.sz = i * c.sz + j by rw [Nat.add_mul]; omega]
    simpa using this
theorem Cod.cells_take {α : Type} (c : Cod α) (l : List α) (n : Nat) : (c.cells l).take (n * c.sz) = c.cells (l.take n) := by
  induction l generalizing n with
  | nil => simp
  | cons x l ih =>
    cases n with
    | zero => simp
    | succ n =>
      rw [Cod.cells_cons, List.take_succ_cons, Cod.cells_cons, ← ih n]
      rw [List.take_append, c.len, List.take_of_length_le (by rw [c.len, Nat.add_mul]; omega)]
      rw [show (n + 1) * c.sz - c.sz = n * c.sz by rw [Nat.add_mul]; omega]
theorem Cod.cells_drop {α : Type} (c : Cod α) (l : List α) (n : Nat) : (c.cells l).drop (n * c.sz) = c.cells (l.drop n) := by
  induction l generalizing n with
  | nil => simp
  | cons x l ih =>
    cases n with
    | zero => simp
    | succ n =>
      rw [Cod.cells_cons, List.drop_succ_cons, ← ih n, List.drop_append, c.len, List.drop_of_length_le (by rw [c.len, Nat.add_mul]; omega)]
      rw [show (n + 1) * c.sz - c.sz = n * c.sz by rw [Nat.add_mul]; omega]
      simp

/-- the cells from p on -/
def Cells (w : World) (p : Option Addr) (vs : List Value) : Prop :=
  match p with
  | none => vs = []
  | some a => ∀ i (h : i < vs.length), w.cell? (a.add i) = some vs[i]

def Sl.blk (s : Sl) : List Nat := match s.ptr with | none => [] | some a => [a.block]
theorem blk_some {s : Sl} {a : Addr} (h : s.ptr = some a) : s.blk = [a.block] := by simp [Sl.blk, h]
theorem blk_none {s : Sl} (h : s.ptr = none) : s.blk = [] := by simp [Sl.blk, h]

structure Sees {α : Type} (c : Cod α) (w : World) (s : Sl) (l : List α) : Prop where
  len : s.len = l.length
  row : Cells w s.ptr (c.cells l)

theorem Cells.upd {m n : List Nat} {w w1 : World} {p : Option Addr} {vs : List Value} (h : Cells w p vs) (u : Upd m n w w1) (hm : ∀ a, p = some a → vs ≠ [] → a.block ∉ m) : Cells w1 p vs := by
  cases p with
  | none => exact h
  | some a =>
    intro i hi
    exact u.cell (h i hi) (by simpa using hm a rfl (by intro e; rw [e] at hi; cases hi))
theorem Cells.app {w : World} {a : Addr} {x y : List Value} (h : Cells w (some a) (x ++ y)) : Cells w (some a) x ∧ Cells w (some (a.add x.length)) y := by
  refine ⟨fun i hi => ?_, fun i hi => ?_⟩
  · have := h i (by simp; omega)
    rwa [List.getElem_append_left hi] at this
  · have := h (x.length + i) (by simp; omega)
    rw [List.getElem_append_right (by omega)] at this
    rw [add_add]
    simpa using this
theorem Cells.mk {w : World} {a : Addr} {x y : List Value} (h : Cells w (some a) x) (k : Cells w (some (a.add x.length)) y) : Cells w (some a) (x ++ y) := by
  intro i hi
  by_cases hx : i < x.length
  · rw [List.getElem_append_left hx]; exact h i hx
  · rw [List.getElem_append_right (by omega)]
    have := k (i - x.length) (by simp at hi; omega)
    rw [add_add, show x.length + (i - x.length) = i by omega] at this
    exact this

section
variable {α : Type} {c : Cod α} {w w1 : World} {s : Sl} {l : List α}

theorem Sees.upd {m n : List Nat} (h : Sees c w s l) (u : Upd m n w w1) (hm : ∀ b ∈ s.blk, b ∉ m) : Sees c w1 s l :=
  ⟨h.len, h.row.upd u (fun a ha _ => hm _ (by simp [blk_some ha]))⟩
theorem Sees.old {n : List Nat} (h : Sees c w s l) (u : Upd [] n w w1) : Sees c w1 s l := h.upd u (by simp)

theorem Sees.nil (c : Cod α) (w : World) (p : Option Addr) (cap : Nat) : Sees c w ⟨p, 0, cap⟩ [] := ⟨rfl, by cases p <;> simp [Cells]⟩

/-- an element's cells -/
theorem Sees.elem (h : Sees c w s l) {i : Nat} (hi : i < l.length) : Cells w (some (s.at c.sz i)) (c.enc l[i]) := by
  intro j hj
  have hrow := h.row
  have hg := c.cells_get l i hi j hj
  cases hp : s.ptr with
  | none =>
    rw [hp] at hrow
    simp only [Cells] at hrow
    rw [hrow] at hg
    simp at hg
  | some a =>
    rw [hp] at hrow
    obtain ⟨hlt, he⟩ := List.getElem?_eq_some_iff.1 hg
    have := hrow _ hlt
    rw [he] at this
    simp only [Sl.at, hp, Option.getD_some, add_add]
    exact this
theorem Sees.ptr_some (h : Sees c w s l) (hz : 0 < c.sz) (hl : 0 < l.length) : ∃ a, s.ptr = some a := by
  cases hp : s.ptr with
  | some a => exact ⟨a, rfl⟩
  | none =>
    have hrow := h.row
    rw [hp] at hrow
    simp only [Cells] at hrow
    have := c.cells_length l
    rw [hrow] at this
    have h2 : 0 < l.length * c.sz := Nat.mul_pos hl hz
    simp at this
    omega
theorem Sees.isSome (h : Sees c w s l) (hz : 0 < c.sz) (hl : 0 < l.length) : s.ptr.isSome = true := by
  obtain ⟨a, ha⟩ := h.ptr_some hz hl
  simp [ha]

/-- a slice of the slice -/
theorem Sees.sub (h : Sees c w s l) {lo hi mx : Nat} (h1 : lo ≤ hi) (h2 : hi ≤ l.length) (h3 : hi ≤ mx) : Sees c w (s.sub c.sz lo hi mx) ((l.take hi).drop lo) where
  len := by simp [Sl.sub]; omega
  row := by
    have hrow := h.row
    rw [← c.cells_drop, ← c.cells_take]
    cases hp : s.ptr with
    | none =>
      rw [hp] at hrow
      simp only [Cells] at hrow
      simp only [hrow, Sl.sub, hp]
      simp [Cells]
    | some a =>
      rw [hp] at hrow
      by_cases e : mx = lo
      · have : hi = lo := by omega
        subst this
        have e2 : ((c.cells l).take (hi * c.sz)).drop (hi * c.sz) = [] := by simp
        rw [e2]
        simp only [Sl.sub]
        split <;> simp [Cells, hp]
      · simp only [Sl.sub, if_neg e, hp, Option.map_some]
        intro i hi'
        simp at hi'
        rw [add_add]
        simp only [List.getElem_drop, List.getElem_take]
        exact hrow _ (by omega)
theorem Sees.take (h : Sees c w s l) {n : Nat} (hn : n ≤ l.length) (cap : Nat) : Sees c w ⟨s.ptr, n, cap⟩ (l.take n) where
  len := by simp; omega
  row := by
    have hrow := h.row
    rw [← c.cells_take]
    cases hp : s.ptr with
    | none => rw [hp] at hrow; simp only [Cells] at hrow; simp [hrow, Cells]
    | some a =>
      rw [hp] at hrow
      intro i hi
      simp at hi
      simp only [List.getElem_take]
      exact hrow _ (by omega)

theorem Sees.rowAt (h : Sees c w s l) : RowAt w s.ptr (s.len * c.sz) (c.cells l) := by
  have hrow := h.row
  cases hp : s.ptr with
  | none => rw [hp] at hrow; exact hrow
  | some a =>
    rw [hp] at hrow
    exact ⟨by rw [c.cells_length, h.len], hrow, c.cells_one l⟩

/-- a slice's array may be written, and it is from block N on -/
structure Own (N : Nat) (sz : Nat) (w : World) (s : Sl) : Prop where
  le : s.len ≤ s.cap
  nil : s.ptr = none → s.cap = 0
  blk : ∀ b ∈ s.blk, N ≤ b ∧ b < w.heap.size
  cell : ∀ a, s.ptr = some a → a.spot = none ∧ ∀ i, i < s.cap * sz → (w.cell? (a.add i)).isSome = true ∧ w.frozen? (a.add i) = false

theorem Own.none (N sz : Nat) (w : World) : Own N sz w ⟨none, 0, 0⟩ := ⟨Nat.le_refl _, fun _ => rfl, by simp [Sl.blk], by simp⟩
theorem Own.upd {N sz : Nat} {m n : List Nat} (h : Own N sz w s) (u : Upd m n w w1) (hm : ∀ b ∈ s.blk, b ∉ m) : Own N sz w1 s where
  le := h.le
  nil := h.nil
  blk b hb := ⟨(h.blk b hb).1, Nat.lt_of_lt_of_le (h.blk b hb).2 u.size⟩
  cell a ha := ⟨(h.cell a ha).1, fun i hi => by
    have hb := hm a.block (by simp [blk_some ha])
    have h1 := (h.cell a ha).2 i hi
    have h2 := (h.blk a.block (by simp [blk_some ha])).2
    rw [u.cell' h1.1 (by simpa using hb), u.frozen (by simpa using h2) (by simpa using hb)]
    exact h1⟩
theorem Own.old {N sz : Nat} {n : List Nat} (h : Own N sz w s) (u : Upd [] n w w1) : Own N sz w1 s := h.upd u (by simp)
theorem Own.mono {N N' sz : Nat} (h : Own N sz w s) (hN : N' ≤ N) : Own N' sz w s := ⟨h.le, h.nil, fun b hb => ⟨Nat.le_trans hN (h.blk b hb).1, (h.blk b hb).2⟩, h.cell⟩

/-- cells of a row written anew -/
theorem isSome_setCells' (b : Nat) (vs : List Value) (o : Nat) (w : World) (a : Addr) (h : (w.cell? a).isSome = true) : ((w.setCells b o vs).cell? a).isSome = true := by
  have : ∀ (vs : List Value) (o : Nat) (w : World), (w.cell? a).isSome = true → ((w.setCells b o vs).cell? a).isSome = true := by
    intro vs
    induction vs with
    | nil => intro o w h; exact h
    | cons v r ih =>
      intro o w h
      rw [World.setCells]
      refine ih _ _ ?_
      by_cases e : (⟨b, o, Option.none⟩ : Addr) = a
      · obtain ⟨u, hu⟩ := Option.isSome_iff_exists.1 h
        rw [← e] at hu ⊢
        rw [World.cell?_setCell_same _ _ _ hu]; rfl
      · rw [World.cell?_setCell_other _ _ _ _ e]; exact h
  exact this vs o w h

theorem Cells.setCells {a : Addr} {x y z vs : List Value} (h : Cells w (some a) (x ++ y ++ z)) (hs : a.spot = Option.none) (hl : vs.length = y.length) (hex : ∀ i, i < vs.length → (w.cell? (a.add (x.length + i))).isSome = true) :
    Cells (w.setCells a.block (a.off + x.length) vs) (some a) (x ++ vs ++ z) := by
  have ea : ∀ i, a.add i = ⟨a.block, a.off + i, Option.none⟩ := fun i => by cases a; simp at hs; subst hs; exact add_none
  intro i hi
  rw [ea]
  simp at hi
  by_cases h1 : i < x.length
  · rw [World.cell?_setCells_out _ _ _ _ _ (fun _ _ => by simp; omega)]
    have := h i (by simp; omega)
    rw [ea] at this
    rw [this, List.getElem_append_left (by simp; omega), List.getElem_append_left h1, List.getElem_append_left (by simp; omega), List.getElem_append_left h1]
  · by_cases h2 : i < x.length + vs.length
    · have := World.cell?_setCells_in a.block vs (a.off + x.length) w (fun j hj => by
        have := hex j hj
        rw [ea] at this
        rwa [show a.off + x.length + j = a.off + (x.length + j) by omega]) (i - x.length) (by omega)
      rw [show a.off + x.length + (i - x.length) = a.off + i by omega] at this
      rw [this, List.getElem_append_left (by simp; omega), List.getElem_append_right (by omega)]
    · rw [World.cell?_setCells_out _ _ _ _ _ (fun _ _ => by simp; omega)]
      have := h i (by simp; omega)
      rw [ea] at this
      rw [this, List.getElem_append_right (by simp; omega), List.getElem_append_right (by simp; omega)]
      simp [hl]
end
end Go.Vc
end

section
namespace Go.Vc
set_option linter.unusedVariables false
set_option linter.unusedSimpArgs false
set_option autoImplicit false

section
variable {α : Type} {c : Cod α} {w w1 : World} {s : Sl} {l : List α}

theorem add_eq {a : Addr} (hs : a.spot = none) (i : Nat) : a.add i = ⟨a.block, a.off + i, none⟩ := by cases a; simp at hs; subst hs; exact add_none

theorem cells_write {a : Addr} {vs : List Value} (hs : a.spot = none) (o : Nat) (hex : ∀ i, i < vs.length → (w.cell? (a.add (o + i))).isSome = true) :
    Cells (w.setCells a.block (a.off + o) vs) (some (a.add o)) vs := by
  intro i hi
  rw [add_add, add_eq hs]
  have := World.cell?_setCells_in a.block vs (a.off + o) w (fun j hj => by
    have := hex j hj
    rw [add_eq hs] at this
    rwa [show a.off + o + j = a.off + (o + j) by omega]) i hi
  rwa [show a.off + o + i = a.off + (o + i) by omega] at this
theorem cells_apart {a : Addr} {x vs : List Value} (hs : a.spot = none) (o p : Nat) (h : Cells w (some (a.add p)) x) (hp : p + x.length ≤ o ∨ o + vs.length ≤ p) :
    Cells (w.setCells a.block (a.off + o) vs) (some (a.add p)) x := by
  intro i hi
  have := h i hi
  rw [add_add, add_eq hs] at this ⊢
  rw [World.cell?_setCells_out _ _ _ _ _ (fun _ _ => by simp; omega)]
  exact this

theorem off_add {a : Addr} (hs : a.spot = none) (n : Nat) : (a.add n).off = a.off + n := by rw [add_eq hs]

theorem frozen_setCells' (b o : Nat) (vs : List Value) (a : Addr) : (w.setCells b o vs).frozen? a = w.frozen? a := World.frozen?_setCells b vs o w a

theorem Own.setCells {N sz : Nat} (h : Own N sz w s) (b o : Nat) (vs : List Value) : Own N sz (w.setCells b o vs) s where
  le := h.le
  nil := h.nil
  blk b' hb := ⟨(h.blk b' hb).1, by rw [setCells_size]; exact (h.blk b' hb).2⟩
  cell a ha := ⟨(h.cell a ha).1, fun i hi => ⟨isSome_setCells' _ _ _ _ _ ((h.cell a ha).2 i hi).1, by rw [frozen_setCells']; exact ((h.cell a ha).2 i hi).2⟩⟩

theorem appendN_own {N e by_ n : Nat} {new : List α} {bs : List Nat} {F : Sl → World → Prop} (h : Sees c w s l) (o : Own N c.sz w s) (hN : N ≤ w.heap.size) (hn : n = new.length)
    (hbs : ∀ b ∈ s.blk, b ∉ bs) (hpos : 0 < by_) (hb : (l.length + new.length) * by_ ≤ 140737488355328)
    (k : ∀ r w1, Sees c w1 r (l ++ new) → Own N c.sz w1 r → Upd s.blk [] w w1 → (∀ b ∈ r.blk, b ∈ s.blk ∨ w.heap.size ≤ b) → F r w1) : AppendN e c.sz by_ s n (c.cells new) bs w F := by
  subst hn
  have hlen := h.len
  refine ⟨fun hfit => ?_, fun hgrow => ⟨?_, ?_, c.cells l, h.rowAt, fun cap b cs w1 hcap u hb1 htake hsize => ?_⟩⟩
  · cases hp : s.ptr with
    | none =>
      have h0 := o.nil hp
      have e1 : new = [] := by cases new with | nil => rfl | cons => simp at hfit; omega
      subst e1
      have el : (⟨none, s.len + ([] : List α).length, s.cap⟩ : Sl) = s := by cases s; simp at hp; subst hp; rfl
      show F ⟨none, s.len + ([] : List α).length, s.cap⟩ w
      rw [el]
      exact k s w (by simpa using h) o ((Upd.refl w).wide (by simp)) (fun b hb => .inl hb)
    | some a =>
      obtain ⟨hs, hc⟩ := o.cell a hp
      have hmul : (s.len + new.length) * c.sz ≤ s.cap * c.sz := Nat.mul_le_mul_right _ hfit
      rw [Nat.add_mul] at hmul
      have hlc := c.cells_length new
      have hll := c.cells_length l
      have hrow := h.row
      rw [hp] at hrow
      refine ⟨fun i hi => ?_, ?_, ?_⟩
      · rw [add_add]
        exact hc _ (by omega)
      · simp only [add_block]
        exact hbs _ (by simp [blk_some hp])
      · show F _ (w.setCells (a.add (s.len * c.sz)).block (a.add (s.len * c.sz)).off (c.cells new))
        rw [off_add hs, add_block]
        refine k _ _ ⟨by simp [hlen], ?_⟩ ?_ ((Upd.setCells w a.block _ _).wide (by simp [blk_some hp])) (fun b hb => .inl (by simp [blk_some hp]; simpa [Sl.blk] using hb))
        · rw [c.cells_append]
          refine Cells.mk ?_ ?_
          · have := cells_apart (vs := c.cells new) hs (s.len * c.sz) 0 (by simpa using hrow) (.inl (by rw [hll, hlen]; omega))
            simpa using this
          · rw [hll, ← hlen]
            exact cells_write hs _ (fun i hi => (hc _ (by omega)).1)
        · have := (o.setCells a.block (a.off + s.len * c.sz) (c.cells new))
          exact ⟨by simp; omega, by simp, by simpa [Sl.blk, hp] using this.blk, fun a' ha' => by simp at ha'; subst ha'; exact this.cell a hp⟩
  · have : l.length + new.length ≤ (l.length + new.length) * by_ := Nat.le_mul_of_pos_right _ hpos
    omega
  · rw [hlen]
    rw [hlen] at hgrow
    exact growslice_fits hgrow hb
  · have hll := c.cells_length l
    have hln := c.cells_length new
    have hmul : (s.len + new.length) * c.sz + (cap - (s.len + new.length)) * c.sz = cap * c.sz := by rw [← Nat.add_mul]; congr 1; omega
    rw [Nat.add_mul] at hmul
    have hsz : cs.size = cap * c.sz := by rw [hsize, hll, hln, hlen] at *; omega
    have hget : ∀ i (hi : i < (c.cells l ++ c.cells new).length), cs[i]? = some (c.cells l ++ c.cells new)[i] := by
      intro i hi
      have e1 : (cs.toList.take ((c.cells l).length + (c.cells new).length))[i]? = some (c.cells l ++ c.cells new)[i] := by rw [htake]; exact List.getElem?_eq_getElem hi
      rw [List.getElem?_take, if_pos (by simpa using hi)] at e1
      simpa using e1
    have hbn := u.new (b := b) (by simp)
    refine k _ _ ⟨by simp [hlen], ?_⟩ ?_ ((u.mono (m' := s.blk) (n' := []) (by simp) (by simp))) (fun b' hb' => by simp [Sl.blk] at hb'; subst hb'; exact .inr hbn.1)
    · rw [c.cells_append]
      intro i hi
      rw [add_none, Nat.zero_add, cell_of_block hb1]
      exact hget i hi
    · refine ⟨by simpa using hcap, by simp, fun b' hb' => ?_, fun a ha => ?_⟩
      · simp [Sl.blk] at hb'
        subst hb'
        exact ⟨Nat.le_trans hN hbn.1, hbn.2⟩
      · simp at ha
        subst ha
        refine ⟨rfl, fun i hi => ?_⟩
        rw [add_none, cell_of_block hb1, frozen_of_block hb1]
        simp at hi
        simp [hsz, hi]

/-- append to a slice without room: new memory -/
theorem appendN_full {e by_ n : Nat} {new : List α} {bs : List Nat} {F : Sl → World → Prop} (h : Sees c w s l) (hfull : s.cap ≤ s.len) (hn : n = new.length) (hn0 : 0 < n)
    (hpos : 0 < by_) (hb : (l.length + new.length) * by_ ≤ 140737488355328)
    (k : ∀ r w1, Sees c w1 r (l ++ new) → Own w.heap.size c.sz w1 r → Upd [] [] w w1 → F r w1) : AppendN e c.sz by_ s n (c.cells new) bs w F := by
  subst hn
  have hlen := h.len
  refine ⟨fun hfit => by omega, fun hgrow => ⟨?_, ?_, c.cells l, h.rowAt, fun cap b cs w1 hcap u hb1 htake hsize => ?_⟩⟩
  · have : l.length + new.length ≤ (l.length + new.length) * by_ := Nat.le_mul_of_pos_right _ hpos
    omega
  · rw [hlen]
    rw [hlen] at hgrow
    exact growslice_fits hgrow hb
  · have hll := c.cells_length l
    have hln := c.cells_length new
    have hmul : (s.len + new.length) * c.sz + (cap - (s.len + new.length)) * c.sz = cap * c.sz := by rw [← Nat.add_mul]; congr 1; omega
    rw [Nat.add_mul] at hmul
    have hsz : cs.size = cap * c.sz := by rw [hsize, hll, hln, hlen] at *; omega
    have hget : ∀ i (hi : i < (c.cells l ++ c.cells new).length), cs[i]? = some (c.cells l ++ c.cells new)[i] := by
      intro i hi
      have e1 : (cs.toList.take ((c.cells l).length + (c.cells new).length))[i]? = some (c.cells l ++ c.cells new)[i] := by rw [htake]; exact List.getElem?_eq_getElem hi
      rw [List.getElem?_take, if_pos (by simpa using hi)] at e1
      simpa using e1
    have hbn := u.new (b := b) (by simp)
    refine k _ _ ⟨by simp [hlen], ?_⟩ ?_ u.forget
    · rw [c.cells_append]
      intro i hi
      rw [add_none, Nat.zero_add, cell_of_block hb1]
      exact hget i hi
    · refine ⟨by simpa using hcap, by simp, fun b' hb' => ?_, fun a ha => ?_⟩
      · simp [Sl.blk] at hb'
        subst hb'
        exact hbn
      · simp at ha
        subst ha
        refine ⟨rfl, fun i hi => ?_⟩
        rw [add_none, cell_of_block hb1, frozen_of_block hb1]
        simp at hi
        simp [hsz, hi]

theorem append_own {N e by_ : Nat} {x : Sl} {new : List α} {bs : List Nat} {F : Sl → World → Prop} (h : Sees c w s l) (o : Own N c.sz w s) (hx : Sees c w x new) (hN : N ≤ w.heap.size)
    (hbs : ∀ b ∈ s.blk, b ∉ bs) (hpos : 0 < by_) (hb : (l.length + new.length) * by_ ≤ 140737488355328)
    (k : ∀ r w1, Sees c w1 r (l ++ new) → Own N c.sz w1 r → Upd s.blk [] w w1 → (∀ b ∈ r.blk, b ∈ s.blk ∨ w.heap.size ≤ b) → F r w1) : Append e c.sz by_ s x bs w F :=
  ⟨c.cells new, hx.rowAt, appendN_own h o hN hx.len hbs hpos hb k⟩
theorem append_full {e by_ : Nat} {x : Sl} {new : List α} {bs : List Nat} {F : Sl → World → Prop} (h : Sees c w s l) (hfull : s.cap ≤ s.len) (hx : Sees c w x new) (hn0 : 0 < new.length)
    (hpos : 0 < by_) (hb : (l.length + new.length) * by_ ≤ 140737488355328)
    (k : ∀ r w1, Sees c w1 r (l ++ new) → Own w.heap.size c.sz w1 r → Upd [] [] w w1 → F r w1) : Append e c.sz by_ s x bs w F :=
  ⟨c.cells new, hx.rowAt, appendN_full h hfull hx.len (by rw [hx.len]; exact hn0) hpos hb k⟩

/-- an element is written -/
theorem own_set {N : Nat} {i : Nat} {x : α} {vs : List Value} {bs : List Nat} {F : World → Prop} (h : Sees c w s l) (o : Own N c.sz w s) (hz : 0 < c.sz) (hi : i < l.length) (hv : vs = c.enc x) (hbs : ∀ b ∈ s.blk, b ∉ bs)
    (k : ∀ w1, Sees c w1 s (l.set i x) → Own N c.sz w1 s → Upd s.blk [] w w1 → F w1) : Store w (s.at c.sz i) vs bs F := by
  subst hv
  obtain ⟨a, hp⟩ := h.ptr_some hz (by omega)
  obtain ⟨hs, hc⟩ := o.cell a hp
  have hat : s.at c.sz i = a.add (i * c.sz) := by simp [Sl.at, hp]
  have hlen := h.len
  have hle := o.le
  have hlx := c.len x
  have hrow := h.row
  rw [hp] at hrow
  have hm : ∀ j, j < c.sz → i * c.sz + j < s.cap * c.sz := fun j hj => mul_add_lt (by omega) hj
  refine ⟨fun j hj => ?_, ?_, ?_⟩
  · rw [hat, add_add]
    exact hc _ (hm j (by omega))
  · rw [hat, add_block]
    exact hbs _ (by simp [blk_some hp])
  · rw [hat, off_add hs, add_block]
    refine k _ ⟨by simpa using hlen, ?_⟩ (o.setCells _ _ _) ((Upd.setCells w a.block _ _).wide (by simp [blk_some hp]))
    rw [hp]
    have e1 : l.set i x = l.take i ++ x :: l.drop (i + 1) := by rw [List.set_eq_take_append_cons_drop, if_pos hi]
    have e2 : l = l.take i ++ l.drop i := (List.take_append_drop i l).symm
    have e3 : l.drop i = l[i] :: l.drop (i + 1) := List.drop_eq_getElem_cons hi
    rw [e1, c.cells_append, c.cells_cons]
    have h1 : (c.cells (l.take i)).length = i * c.sz := by rw [c.cells_length, List.length_take]; congr 1; omega
    have hrow' : Cells w (some a) (c.cells (l.take i) ++ (c.enc l[i] ++ c.cells (l.drop (i + 1)))) := by
      rw [← c.cells_cons, ← e3, ← c.cells_append, ← e2]; exact hrow
    obtain ⟨r1, r2⟩ := hrow'.app
    obtain ⟨r3, r4⟩ := r2.app
    rw [h1] at r4
    rw [add_add, c.len] at r4
    refine Cells.mk ?_ (Cells.mk ?_ ?_)
    · have := cells_apart (vs := c.enc x) hs (i * c.sz) 0 (by simpa using r1) (.inl (by omega))
      simpa using this
    · rw [h1]
      exact cells_write hs _ (fun j hj => (hc _ (hm j (by omega))).1)
    · rw [h1, add_add, hlx]
      exact cells_apart hs _ _ r4 (.inr (by omega))

/-- a new row -/
theorem sees_row {b e n cap : Nat} {f : Nat × Nat} {cs : List Value} (h : w.heap[b]? = some (.cells cs.toArray e f)) (l : List α) (hl : cs = c.cells l) (hn : n = l.length) : Sees c w ⟨some ⟨b, 0, none⟩, n, cap⟩ l := by
  subst hl hn
  refine ⟨rfl, fun i hi => ?_⟩
  rw [add_none, cell_of_block h]
  simp [hi]
theorem own_row {N b e n cap : Nat} {cs : List Value} {sz : Nat} (h : w.heap[b]? = some (.cells cs.toArray e (0, 0))) (hN : N ≤ b) (hl : cs.length = cap * sz) (hn : n ≤ cap) : Own N sz w ⟨some ⟨b, 0, none⟩, n, cap⟩ where
  le := hn
  nil := by simp
  blk b' hb := by simp [Sl.blk] at hb; subst hb; exact ⟨hN, (Array.getElem?_eq_some_iff.1 h).1⟩
  cell a ha := by
    simp at ha
    subst ha
    refine ⟨rfl, fun i hi => ?_⟩
    rw [add_none, cell_of_block h, frozen_of_block h]
    simp at hi
    simp [hl, hi]

theorem copy_own {N : Nat} {x : Sl} {m : List α} {bs : List Nat} {F : World → Prop} (h : Sees c w s l) (o : Own N c.sz w s) (hx : Sees c w x m) (hbs : ∀ b ∈ s.blk, b ∉ bs)
    (k : ∀ w1, Sees c w1 s (m.take l.length ++ l.drop m.length) → Own N c.sz w1 s → Upd s.blk [] w w1 → F w1) : Copy c.sz s x bs w F := by
  have hlen := h.len
  have hxl := hx.len
  have hle := o.le
  refine ⟨c.cells (m.take l.length), ?_, ?_⟩
  · have := (hx.take (n := min m.length l.length) (by omega) 0).rowAt
    rw [show Nat.min x.len s.len = min m.length l.length by rw [hxl, hlen]]
    have e : m.take (min m.length l.length) = m.take l.length := by rw [List.take_eq_take_iff]; omega
    rw [e] at this
    exact this
  · cases hp : s.ptr with
    | none =>
      have h0 := o.nil hp
      have e1 : l = [] := by cases l with | nil => rfl | cons => simp at hlen; omega
      subst e1
      simp only
      exact k w (by simpa using h) o ((Upd.refl w).wide (by simp))
    | some a =>
      obtain ⟨hs, hc⟩ := o.cell a hp
      have hrow := h.row
      rw [hp] at hrow
      have h1 : (c.cells (m.take l.length)).length = min l.length m.length * c.sz := by rw [c.cells_length, List.length_take]
      have hm : (c.cells (m.take l.length)).length ≤ s.cap * c.sz := by rw [h1]; exact Nat.mul_le_mul_right _ (by omega)
      refine ⟨fun i hi => hc i (by omega), hbs _ (by simp [blk_some hp]), ?_⟩
      refine k _ ⟨by simp; omega, ?_⟩ (o.setCells _ _ _) ((Upd.setCells w a.block _ _).wide (by simp [blk_some hp]))
      rw [hp, c.cells_append]
      refine Cells.mk ?_ ?_
      · have := cells_write (w := w) (vs := c.cells (m.take l.length)) hs 0 (fun i hi => by simpa using (hc i (by omega)).1)
        simpa using this
      · have hd : l.drop m.length = l.drop (min l.length m.length) := by
          by_cases g : m.length ≤ l.length
          · rw [Nat.min_eq_right g]
          · rw [List.drop_of_length_le (by omega), List.drop_of_length_le (by omega)]
        rw [hd, h1]
        have e2 : Cells w (some a) (c.cells (l.take (min l.length m.length)) ++ c.cells (l.drop (min l.length m.length))) := by rw [← c.cells_append, List.take_append_drop]; exact hrow
        have r := e2.app.2
        have h2 : (c.cells (l.take (min l.length m.length))).length = min l.length m.length * c.sz := by rw [c.cells_length, List.length_take]; congr 1; omega
        rw [h2] at r
        have := cells_apart (vs := c.cells (m.take l.length)) hs 0 _ r (.inr (by omega))
        simpa using this
end

theorem Cod.cells_map1 {α : Type} {c : Cod α} {g : α → Value} (h : ∀ x, c.enc x = [g x]) : ∀ (l : List α), c.cells l = l.map g
  | [] => rfl
  | x :: l => by rw [Cod.cells_cons, h, Cod.cells_map1 h l]; rfl

/-! ### bytes -/
def cU8 : Cod Int := ⟨1, fun n => [.int .u8 n], fun _ => rfl, by simp [Value.oneCell']⟩
def cI64 : Cod Int := ⟨1, fun n => [.int .i64 n], fun _ => rfl, by simp [Value.oneCell']⟩
def cSl : Cod Sl := ⟨1, fun s => [s.val], fun _ => rfl, by simp [Value.oneCell', Sl.val]⟩
abbrev SeesB (w : World) (s : Sl) (l : List Int) : Prop := Sees cU8 w s l
/-- the byte at a place (0 outside) -/
def bt (l : List Int) (i : Int) : Int := l.getD i.toNat 0
def Byt (l : List Int) : Prop := ∀ x ∈ l, 0 ≤ x ∧ x < 256
theorem Byt.bt {l : List Int} (h : Byt l) (i : Int) : 0 ≤ bt l i ∧ bt l i < 256 := by
  unfold Go.Vc.bt
  rw [List.getD_eq_getElem?_getD]
  by_cases hi : i.toNat < l.length
  · rw [List.getElem?_eq_getElem hi]; exact h _ (List.getElem_mem hi)
  · rw [List.getElem?_eq_none (by omega)]; simp
theorem Byt.app {l m : List Int} (h : Byt l) (k : Byt m) : Byt (l ++ m) := fun x hx => by rcases List.mem_append.1 hx with h' | h'; exact h x h'; exact k x h'
theorem Byt.nil : Byt [] := by simp [Byt]
theorem Byt.take {l : List Int} (h : Byt l) (n : Nat) : Byt (l.take n) := fun x hx => h x (List.mem_of_mem_take hx)
theorem Byt.drop {l : List Int} (h : Byt l) (n : Nat) : Byt (l.drop n) := fun x hx => h x (List.mem_of_mem_drop hx)
theorem Byt.set {l : List Int} (h : Byt l) (n : Nat) {v : Int} (hv : 0 ≤ v ∧ v < 256) : Byt (l.set n v) := fun x hx => by
  rcases List.mem_or_eq_of_mem_set hx with h' | h'
  · exact h x h'
  · subst h'; exact hv
theorem Sees.byte {w : World} {s : Sl} {l : List Int} (h : Sees cU8 w s l) {i : Int} (h0 : 0 ≤ i) (hi : i < l.length) : w.cell? (s.at 1 i.toNat) = some (.int .u8 (bt l i)) := by
  have := h.elem (i := i.toNat) (by omega) 0 (by simp [cU8])
  rw [add_zero] at this
  rw [show cU8.sz = 1 from rfl] at this
  rw [this]
  simp [cU8, bt, List.getD_eq_getElem?_getD, List.getElem?_eq_getElem (show i.toNat < l.length by omega)]
theorem Sees.subB {w : World} {s : Sl} {l : List Int} (h : Sees cU8 w s l) {lo hi mx : Nat} (h1 : lo ≤ hi) (h2 : hi ≤ l.length) (h3 : hi ≤ mx) : Sees cU8 w (s.sub 1 lo hi mx) ((l.take hi).drop lo) := h.sub h1 h2 h3
end Go.Vc
end

section
namespace Go.Vc
set_option linter.unusedVariables false
set_option linter.unusedSimpArgs false
set_option autoImplicit false

/-! ### steps of a statement -/
section
variable {X Y : Prop}
theorem brd {p : Prop} [Decidable p] (h1 : p → X) (h2 : ¬p → Y) : Br (decide p) X Y := Br_iff.2 ⟨fun h => h1 (of_decide_eq_true h), fun h => h2 (of_decide_eq_false h)⟩
theorem brb {c : Bool} (h1 : c = true → X) (h2 : c = false → Y) : Br c X Y := Br_iff.2 ⟨h1, h2⟩
theorem brn {c : Bool} (h1 : c = false → X) (h2 : c = true → Y) : Br (!c) X Y := Br_iff.2 ⟨fun h => h1 (by simpa using h), fun h => h2 (by simpa using h)⟩
theorem bre {α : Type} [BEq α] [LawfulBEq α] {a b : α} (h1 : a = b → X) (h2 : a ≠ b → Y) : Br (a == b) X Y := Br_iff.2 ⟨fun h => h1 (by simpa using h), fun h => h2 (by simpa using h)⟩
theorem bre' {α : Type} [BEq α] [LawfulBEq α] {a b : α} (h1 : a ≠ b → X) (h2 : a = b → Y) : Br (a != b) X Y := Br_iff.2 ⟨fun h => h1 (by simpa using h), fun h => h2 (by simpa using h)⟩
theorem brt {c : Bool} (h : c = true) (x : X) : Br c X Y := by subst h; exact x
theorem brf {c : Bool} (h : c = false) (y : Y) : Br c X Y := by subst h; exact y
theorem need {c : Bool} (h : c = true) (x : X) : Need c X := Need_iff.2 ⟨h, x⟩
theorem needIx {i n : Int} {o : Option Addr} (h0 : 0 ≤ i) (h1 : i < n) (h2 : o.isSome = true) (x : X) : Need (decide (0 ≤ i) && decide (i < n) && o.isSome) X := need (by simp [h0, h1, h2]) x
theorem needIx2 {i n : Int} (h0 : 0 ≤ i) (h1 : i < n) (x : X) : Need (decide (0 ≤ i) && decide (i < n)) X := need (by simp [h0, h1]) x
theorem needIxLe {i n : Int} (h0 : 0 ≤ i) (h1 : i ≤ n) (x : X) : Need (decide (0 ≤ i) && decide (i ≤ n)) X := need (by simp [h0, h1]) x
theorem needD {p : Prop} [Decidable p] (h : p) (x : X) : Need (decide p) X := need (by simp [h]) x
theorem needNe {a b : Int} (h : a ≠ b) (x : X) : Need (a != b) X := need (by simp [h]) x
theorem needSl {l h m : Int} (a : 0 ≤ h) (b : h ≤ m) (c : 0 ≤ l) (d : l ≤ h) (x : X) : Need (decide (0 ≤ h) && decide (h ≤ m) && (decide (0 ≤ l) && decide (l ≤ (h.toNat : Int)))) X :=
  need (by simp [a, b, c]; omega) x
end

theorem Ret.mono {P : Program} {f : Nat} {args : List SV} {w : World} {R R' : SV → World → Prop} (h : Ret P f args w R) (k : ∀ r w1, R r w1 → R' r w1) : Ret P f args w R' := by
  unfold Ret at *
  exact h.mono fun e w' ⟨r, h1, h2⟩ => ⟨r, h1, k r w' h2⟩

/-! ### numbers -/
theorem wr_i64 {x : Int} (h1 : -9223372036854775808 ≤ x) (h2 : x ≤ 9223372036854775807) : wr .i64 x = x := by
  unfold wr IntKind.wrap
  simp only [IntKind.bits, IntKind.signed, Bool.true_and, decide_eq_true_eq, ge_iff_le]
  split <;> omega
theorem wr_succ {q : Nat} (h : q < 9223372036854775807) : wr .i64 ((q : Int) + 1) = ((q + 1 : Nat) : Int) := by rw [wr_i64 (by omega) (by omega)]; omega
theorem wr_u64 {x : Int} (h1 : 0 ≤ x) (h2 : x ≤ 18446744073709551615) : wr .u64 x = x := by
  unfold wr IntKind.wrap
  simp only [IntKind.bits, IntKind.signed, Bool.false_and, Bool.false_eq_true, if_false]
  omega
theorem wr_u32 (x : Int) : wr .u32 x = x % 4294967296 := by
  unfold wr IntKind.wrap
  simp only [IntKind.bits, IntKind.signed, Bool.false_and, Bool.false_eq_true, if_false]
  omega
theorem wr_u16 (x : Int) : wr .u16 x = x % 65536 := by
  unfold wr IntKind.wrap
  simp only [IntKind.bits, IntKind.signed, Bool.false_and, Bool.false_eq_true, if_false]
  omega
theorem wr_u8 (x : Int) : wr .u8 x = x % 256 := by
  unfold wr IntKind.wrap
  simp only [IntKind.bits, IntKind.signed, Bool.false_and, Bool.false_eq_true, if_false]
  omega
theorem wr_range (k : IntKind) (x : Int) : k.min ≤ wr k x ∧ wr k x ≤ k.max := by
  cases k <;> simp only [wr, IntKind.wrap, IntKind.min, IntKind.max, IntKind.bits, IntKind.signed, Bool.true_and, Bool.false_and, decide_eq_true_eq, Bool.false_eq_true, if_false, if_true, ge_iff_le] <;> (try split) <;> omega
theorem wr_u8_range (x : Int) : 0 ≤ wr .u8 x ∧ wr .u8 x < 256 := by rw [wr_u8]; omega

theorem ofInt_toNat {n : Nat} {a : Int} (h : 0 ≤ a) (h1 : a < 2 ^ n) : (BitVec.ofInt n a).toNat = a.toNat := by
  rw [BitVec.toNat_ofInt]
  rw [Int.emod_eq_of_lt h (by exact_mod_cast h1)]
theorem wr_nat_i64 {n : Nat} (h : n < 9223372036854775808) : (IntKind.i64).wrap (n : Int) = n := by have := wr_i64 (x := n) (by omega) (by omega); exact this

theorem iand_nat {a b : Int} (ha : 0 ≤ a) (ha1 : a < 9223372036854775808) (hb : 0 ≤ b) (hb1 : b < 9223372036854775808) : iand .i64 a b = ((a.toNat &&& b.toNat : Nat) : Int) := by
  unfold iand ibits
  rw [BitVec.toNat_and, ofInt_toNat ha (by simp only [IntKind.bits]; omega), ofInt_toNat hb (by simp only [IntKind.bits]; omega)]
  have : a.toNat &&& b.toNat ≤ a.toNat := Nat.and_le_left
  exact wr_nat_i64 (by omega)
theorem ior_nat {a b : Int} (ha : 0 ≤ a) (ha1 : a < 9223372036854775808) (hb : 0 ≤ b) (hb1 : b < 9223372036854775808) : ior .i64 a b = ((a.toNat ||| b.toNat : Nat) : Int) := by
  unfold ior ibits
  rw [BitVec.toNat_or, ofInt_toNat ha (by simp only [IntKind.bits]; omega), ofInt_toNat hb (by simp only [IntKind.bits]; omega)]
  have : a.toNat ||| b.toNat < 2 ^ 63 := Nat.or_lt_two_pow (by omega) (by omega)
  exact wr_nat_i64 (by omega)
theorem ixor_nat {a b : Int} (ha : 0 ≤ a) (ha1 : a < 9223372036854775808) (hb : 0 ≤ b) (hb1 : b < 9223372036854775808) : ixor .i64 a b = ((a.toNat ^^^ b.toNat : Nat) : Int) := by
  unfold ixor ibits
  rw [BitVec.toNat_xor, ofInt_toNat ha (by simp only [IntKind.bits]; omega), ofInt_toNat hb (by simp only [IntKind.bits]; omega)]
  have : a.toNat ^^^ b.toNat < 2 ^ 63 := Nat.xor_lt_two_pow (by omega) (by omega)
  exact wr_nat_i64 (by omega)
theorem ixor_u8 {a b : Int} (ha : 0 ≤ a) (ha1 : a < 256) (hb : 0 ≤ b) (hb1 : b < 256) : ixor .u8 a b = ((a.toNat ^^^ b.toNat : Nat) : Int) := by
  unfold ixor ibits
  rw [BitVec.toNat_xor, ofInt_toNat ha (by simp only [IntKind.bits]; omega), ofInt_toNat hb (by simp only [IntKind.bits]; omega)]
  have : a.toNat ^^^ b.toNat < 2 ^ 8 := Nat.xor_lt_two_pow (by omega) (by omega)
  have h := wr_u8 ((a.toNat ^^^ b.toNat : Nat) : Int)
  unfold wr at h
  rw [h]; omega
theorem iand_u8 {a b : Int} (ha : 0 ≤ a) (ha1 : a < 256) (hb : 0 ≤ b) (hb1 : b < 256) : iand .u8 a b = ((a.toNat &&& b.toNat : Nat) : Int) := by
  unfold iand ibits
  rw [BitVec.toNat_and, ofInt_toNat ha (by simp only [IntKind.bits]; omega), ofInt_toNat hb (by simp only [IntKind.bits]; omega)]
  have : a.toNat &&& b.toNat ≤ a.toNat := Nat.and_le_left
  have h := wr_u8 ((a.toNat &&& b.toNat : Nat) : Int)
  unfold wr at h
  rw [h]; omega
theorem ior_u8 {a b : Int} (ha : 0 ≤ a) (ha1 : a < 256) (hb : 0 ≤ b) (hb1 : b < 256) : ior .u8 a b = ((a.toNat ||| b.toNat : Nat) : Int) := by
  unfold ior ibits
  rw [BitVec.toNat_or, ofInt_toNat ha (by simp only [IntKind.bits]; omega), ofInt_toNat hb (by simp only [IntKind.bits]; omega)]
  have : a.toNat ||| b.toNat < 2 ^ 8 := Nat.or_lt_two_pow (by omega) (by omega)
  have h := wr_u8 ((a.toNat ||| b.toNat : Nat) : Int)
  unfold wr at h
  rw [h]; omega

/-- a mask of low bits, of any number -/
theorem iand_mask {a : Int} (m : Nat) (hm : m < 63) : iand .i64 a (2 ^ m - 1) = a % 2 ^ m := by
  have hp : (2 : Int) ^ m < 2 ^ 63 := by exact_mod_cast Nat.pow_lt_pow_right (by omega) hm
  have hp' : (2 : Nat) ^ m < 2 ^ 63 := Nat.pow_lt_pow_right (by omega) hm
  have h1 : (1 : Nat) ≤ 2 ^ m := Nat.one_le_two_pow
  unfold iand ibits
  rw [BitVec.toNat_and]
  have e1 : (BitVec.ofInt (IntKind.i64).bits (2 ^ m - 1)).toNat = 2 ^ m - 1 := by
    rw [ofInt_toNat (by have : (1 : Int) ≤ 2 ^ m := by exact_mod_cast h1
                        omega) (by simp only [IntKind.bits]; omega)]
    have : ((2 : Int) ^ m - 1) = ((2 ^ m - 1 : Nat) : Int) := by push_cast [h1]; rfl
    rw [this]; rfl
  rw [e1, Nat.and_two_pow_sub_one_eq_mod]
  have e2 : (((BitVec.ofInt (IntKind.i64).bits a).toNat % 2 ^ m : Nat) : Int) = a % 2 ^ m := by
    rw [BitVec.toNat_ofInt]
    push_cast
    rw [Int.toNat_of_nonneg (Int.emod_nonneg _ (by simp [IntKind.bits]))]
    exact Int.emod_emod_of_dvd a (by simp only [IntKind.bits]; exact ⟨2 ^ (64 - m), by rw [← Int.pow_add]; congr 1; omega⟩)
  rw [e2]
  have h3 : 0 ≤ a % 2 ^ m := Int.emod_nonneg _ (by exact_mod_cast (Nat.pos_iff_ne_zero.1 h1))
  have h4 : a % 2 ^ m < 2 ^ m := Int.emod_lt_of_pos _ (by exact_mod_cast h1)
  exact wr_i64 (by omega) (by omega)
theorem and_65535 (a : Int) : iand .i64 a 65535 = a % 65536 := iand_mask 16 (by omega)
theorem and_255 (a : Int) : iand .i64 a 255 = a % 256 := iand_mask 8 (by omega)
theorem and_1 (a : Int) : iand .i64 a 1 = a % 2 := iand_mask 1 (by omega)
theorem and_4095 (a : Int) : iand .i64 a 4095 = a % 4096 := iand_mask 12 (by omega)
theorem and_15 (a : Int) : iand .i64 a 15 = a % 16 := iand_mask 4 (by omega)

theorem gshr_i64 (a b : Int) (h : b ≤ 64) : gshr .i64 a b = a.fdiv (2 ^ b.toNat) := by
  unfold gshr
  rw [Nat.min_eq_left (by simp only [IntKind.bits]; omega)]
theorem gshr8 (a : Int) : gshr .i64 a 8 = a / 256 := by rw [gshr_i64 _ _ (by omega)]; exact Int.fdiv_eq_ediv_of_nonneg _ (by decide)
theorem gshr16 (a : Int) : gshr .i64 a 16 = a / 65536 := by rw [gshr_i64 _ _ (by omega)]; exact Int.fdiv_eq_ediv_of_nonneg _ (by decide)
theorem gshr12 (a : Int) : gshr .i64 a 12 = a / 4096 := by rw [gshr_i64 _ _ (by omega)]; exact Int.fdiv_eq_ediv_of_nonneg _ (by decide)
theorem gshr13 (a : Int) : gshr .i64 a 13 = a / 8192 := by rw [gshr_i64 _ _ (by omega)]; exact Int.fdiv_eq_ediv_of_nonneg _ (by decide)
theorem gshr4 (a : Int) : gshr .i64 a 4 = a / 16 := by rw [gshr_i64 _ _ (by omega)]; exact Int.fdiv_eq_ediv_of_nonneg _ (by decide)
theorem gshr24 (a : Int) : gshr .i64 a 24 = a / 16777216 := by rw [gshr_i64 _ _ (by omega)]; exact Int.fdiv_eq_ediv_of_nonneg _ (by decide)
theorem gshl_i64 (a b : Int) (h : b ≤ 64) : gshl .i64 a b = wr .i64 (a * 2 ^ b.toNat) := by
  unfold gshl
  rw [Nat.min_eq_left (by simp only [IntKind.bits]; omega)]; rfl
theorem gshl8 (a : Int) : gshl .i64 a 8 = wr .i64 (a * 256) := gshl_i64 a 8 (by omega)
theorem gshl16 (a : Int) : gshl .i64 a 16 = wr .i64 (a * 65536) := gshl_i64 a 16 (by omega)
theorem gshl24 (a : Int) : gshl .i64 a 24 = wr .i64 (a * 16777216) := gshl_i64 a 24 (by omega)
theorem gshl12 (a : Int) : gshl .i64 a 12 = wr .i64 (a * 4096) := gshl_i64 a 12 (by omega)
theorem gshl13 (a : Int) : gshl .i64 a 13 = wr .i64 (a * 8192) := gshl_i64 a 13 (by omega)

/-- high and low bits together -/
theorem ior_add {a b : Int} (m : Nat) (ha : 0 ≤ a) (ha1 : a < 9223372036854775808) (hd : a % 2 ^ m = 0) (hb : 0 ≤ b) (hb1 : b < 2 ^ m) (hm : m < 63) : ior .i64 a b = a + b := by
  have hp : (2 : Int) ^ m < 2 ^ 63 := by exact_mod_cast Nat.pow_lt_pow_right (by omega) hm
  rw [ior_nat ha ha1 hb (by omega)]
  have e : a.toNat = 2 ^ m * (a.toNat / 2 ^ m) := by
    have h1 : a.toNat % 2 ^ m = 0 := by
      have : ((a.toNat % 2 ^ m : Nat) : Int) = 0 := by push_cast; rw [Int.toNat_of_nonneg ha]; exact hd
      exact_mod_cast this
    have := Nat.div_add_mod a.toNat (2 ^ m)
    omega
  have hb2 : b.toNat < 2 ^ m := by
    have : ((b.toNat : Nat) : Int) < ((2 ^ m : Nat) : Int) := by push_cast; omega
    exact_mod_cast this
  rw [e, ← Nat.two_pow_add_eq_or_of_lt hb2, ← e]
  push_cast
  omega

theorem tmod_pos {a b : Int} (h : 0 ≤ a) : Int.tmod a b = a % b := Int.tmod_eq_emod_of_nonneg h
theorem tdiv_pos {a b : Int} (h : 0 ≤ a) : Int.tdiv a b = a / b := Int.tdiv_eq_ediv_of_nonneg h
end Go.Vc
end

section
open Go Go.Vc Go.Vc.S5 Go.Proofs
set_option maxRecDepth 100000
set_option linter.unusedVariables false
namespace Go.Vc.S5
def vc45 (b : Sl) (p1 : Int) (n : Int) (w : World) (R : SV → World → Prop) : Prop :=
  ∀ (b_1 b_2 : Nat) (w1 : World),
    Upd [] [b_2, b_1] w w1 →
      Ret Try.prog 57 [SV.int IntKind.i64 n] w1 fun (r : SV) (w1_1 : World) =>
        ∃ (b_3 : Bool),
          r = SV.bool b_3 ∧
            Keeps [b_1, b_2] w1 w1_1 ∧
              Br (!b_3) (∀ (w1 : World), Upd [b_2, b_1] [] w1_1 w1 → R (SV.tuple [SV.int IntKind.u64 0, SV.int IntKind.i64 1]) w1)
                ((World.heap w1_1)[b_1]? = some (Obj.cells { toList := SV.cells (SV.int IntKind.u64 0) } 80) →
                  Off b_1 [b_2] →
                    (World.heap w1_1)[b_2]? = some (Obj.cells { toList := SV.cells (SV.int IntKind.i64 0) } 36) →
                      Ret Try.prog 59 [SV.slice b, SV.int IntKind.i64 p1, SV.int IntKind.i64 n] w1_1 fun (r : SV) (w1 : World) =>
                        ∃ (n : Int),
                          r = SV.int IntKind.u64 n ∧
                            Store w1 { block := b_1, off := 0 } (SV.cells (SV.int IntKind.u64 n)) [] fun (w1 : World) =>
                              Store w1 { block := b_2, off := 0 } (SV.cells (SV.int IntKind.i64 0)) [] fun (w1 : World) =>
                                RetD Try.prog 58 [SV.ptr (some { block := b_1, off := 0 }), SV.ptr (some { block := b_2, off := 0 })] w1 fun (w1 : World) =>
                                  ∃ (n : Int),
                                    World.cell? w1 { block := b_1, off := 0 } = some (Value.int IntKind.u64 n) ∧
                                      ∃ (n_1 : Int),
                                        World.cell? w1 { block := b_2, off := 0 } = some (Value.int IntKind.i64 n_1) ∧ R (SV.tuple [SV.int IntKind.u64 n, SV.int IntKind.i64 n_1]) w1)
theorem f45_of (b : Sl) (p1 : Int) (n : Int) (w : World) (R : SV → World → Prop) (hV : vc45 b p1 n w R) : Ret Try.prog 45 [.slice b, .int .i64 p1, .int .i64 n] w R :=
  have e : vc45 b p1 n w R = fnVCD X Try.f45 a45 [.slice b, .int .i64 p1, .int .i64 n] w R := by kernel_rfl
  fnVCD_sound X_ok (n := a45) (e ▸ hV) (by kernel_rfl) (by kernel_rfl) rfl rfl

def vc43 (b : Sl) (w : World) (R : SV → World → Prop) : Prop :=
  ∀ (b_1 : Nat),
    Need (decide (0 < (↑b.2 : Int)) && Option.isSome b.1)
      (∃ (n : Int),
        World.cell? w (Sl.at b 1 0) = some (Value.int IntKind.u8 n) ∧
          Need (decide (1 < (↑b.2 : Int)) && Option.isSome b.1)
            (∃ (n_1 : Int),
              World.cell? w (Sl.at b 1 1) = some (Value.int IntKind.u8 n_1) ∧
                Need (decide (2 < (↑b.2 : Int)) && Option.isSome b.1)
                  (∃ (n_2 : Int),
                    World.cell? w (Sl.at b 1 2) = some (Value.int IntKind.u8 n_2) ∧
                      Need (decide (3 < (↑b.2 : Int)) && Option.isSome b.1)
                        (∃ (n_3 : Int),
                          World.cell? w (Sl.at b 1 3) = some (Value.int IntKind.u8 n_3) ∧
                            ∀ (w1 : World),
                              Upd [] [b_1] w w1 →
                                R (SV.struct [SV.int IntKind.i64 4, SV.arr IntKind.u8 16 (fset (fset (fset (fset (fun (x : Nat) => 0) 0 n) 1 n_1) 2 n_2) 3 n_3)]) w1))))
theorem f43_of (b : Sl) (w : World) (R : SV → World → Prop) (hV : vc43 b w R) : Ret Try.prog 43 [.slice b] w R :=
  have e : vc43 b w R = fnVC X Try.f43 a43 [.slice b] w R := by kernel_rfl
  fnVC_sound X_ok (n := a43) (e ▸ hV) (by kernel_rfl) (by kernel_rfl) rfl rfl

def vc42 (op : Int) (m : Nat → Int) (w : World) (R : SV → World → Prop) : Prop :=
  ∀ (b : Nat) (J : World → Prop),
    (∀ (w1 : World),
        (Ret Try.prog 14 [SV.arr IntKind.u8 6 m] w1 fun (r : SV) (w1_1 : World) =>
            ∃ (b_1 : Bool),
              r = SV.bool b_1 ∧
                Keeps [b] w1 w1_1 ∧ Br b_1 (R (SV.int IntKind.i64 58) w1_1) (Br (eqArr 6 m fun (x : Nat) => 0) (R (SV.int IntKind.i64 58) w1_1) (R (SV.int IntKind.i64 0) w1_1))) →
          J w1) →
      Br (op != 1)
        (Br (op != 2) (∀ (w1 : World), Upd [] [b] w w1 → R (SV.int IntKind.i64 57) w1)
          (∀ (w1 : World), Upd [] [b] w w1 → some (SV.box b 24 (SV.arr IntKind.u8 6 m)) = some (SV.box b 24 (SV.arr IntKind.u8 6 m)) ∧ J w1))
        (∀ (w1 : World), Upd [] [b] w w1 → some (SV.box b 24 (SV.arr IntKind.u8 6 m)) = some (SV.box b 24 (SV.arr IntKind.u8 6 m)) ∧ J w1)
theorem f42_of (op : Int) (m : Nat → Int) (w : World) (R : SV → World → Prop) (hV : vc42 op m w R) : Ret Try.prog 42 [.int .i64 op, .arr .u8 6 m] w R :=
  have e : vc42 op m w R = fnVC X Try.f42 a42 [.int .i64 op, .arr .u8 6 m] w R := by kernel_rfl
  fnVC_sound X_ok (n := a42) (e ▸ hV) (by kernel_rfl) (by kernel_rfl) rfl rfl

def vc47 (m : Nat → Int) (w : World) (R : SV → World → Prop) : Prop :=
  ∀ (b : Nat) (w1 : World),
    Upd [] [b] w w1 →
      Ret Try.prog 15 [SV.arr IntKind.u8 6 m] w1 fun (r : SV) (w1_1 : World) =>
        ∃ (b_1 : Bool), r = SV.bool b_1 ∧ Keeps [b] w1 w1_1 ∧ Br (!b_1) (R (SV.bool !eqArr 6 m fun (x : Nat) => 0) w1_1) (R (SV.bool false) w1_1)
theorem f47_of (m : Nat → Int) (w : World) (R : SV → World → Prop) (hV : vc47 m w R) : Ret Try.prog 47 [.arr .u8 6 m] w R :=
  have e : vc47 m w R = fnVC X Try.f47 a47 [.arr .u8 6 m] w R := by kernel_rfl
  fnVC_sound X_ok (n := a47) (e ▸ hV) (by kernel_rfl) (by kernel_rfl) rfl rfl

def vc48 (ip_0 : Int) (ip_1 : Nat → Int) (w : World) (R : SV → World → Prop) : Prop :=
  ∀ (b : Nat),
    Br (ip_0 != 4) (∀ (w1 : World), Upd [] [b] w w1 → R (SV.bool (ip_0 == 6)) w1)
      (∃ (I : Int → World → Prop),
        ∃ (M : Int → World → Nat),
          (∀ (w1 : World), Upd [] [b] w w1 → I 4 w1) ∧
            ∀ (n : Int) (w1 : World),
              I n w1 →
                Br (decide (n < 16))
                  (Need (decide (0 ≤ n) && decide (n < 16))
                    (Br (ip_1 (Int.toNat n) != 0) (R (SV.bool false) w1)
                      (some (SV.box b 33 (SV.struct [SV.int IntKind.i64 ip_0, SV.arr IntKind.u8 16 ip_1])) =
                          some (SV.box b 33 (SV.struct [SV.int IntKind.i64 ip_0, SV.arr IntKind.u8 16 ip_1])) ∧
                        I (wr IntKind.i64 (n + 1)) w1 ∧ M (wr IntKind.i64 (n + 1)) w1 < M n w1)))
                  (R (SV.bool true) w1))
theorem f48_of (ip_0 : Int) (ip_1 : Nat → Int) (w : World) (R : SV → World → Prop) (hV : vc48 ip_0 ip_1 w R) : Ret Try.prog 48 [.struct [.int .i64 ip_0, .arr .u8 16 ip_1]] w R :=
  have e : vc48 ip_0 ip_1 w R = fnVC X Try.f48 a48 [.struct [.int .i64 ip_0, .arr .u8 16 ip_1]] w R := by kernel_rfl
  fnVC_sound X_ok (n := a48) (e ▸ hV) (by kernel_rfl) (by kernel_rfl) rfl rfl

def vc57 (n : Int) (w : World) (R : SV → World → Prop) : Prop :=
  Br (decide (n ≥ 1)) (R (SV.bool (decide (n ≤ 8))) w) (R (SV.bool false) w)
theorem f57_of (n : Int) (w : World) (R : SV → World → Prop) (hV : vc57 n w R) : Ret Try.prog 57 [.int .i64 n] w R :=
  have e : vc57 n w R = fnVC X Try.f57 a57 [.int .i64 n] w R := by kernel_rfl
  fnVC_sound X_ok (n := a57) (e ▸ hV) (by kernel_rfl) (by kernel_rfl) rfl rfl

def vc59 (b : Sl) (p1 : Int) (n : Int) (w : World) (R : SV → World → Prop) : Prop :=
  ∀ (J : World → Prop),
    (∀ (w1 : World),
        (∃ (I : Int → Int → World → Prop),
            ∃ (M : Int → Int → World → Nat),
              I 0 0 w1 ∧
                ∀ (n_1 n_2 : Int) (w1 : World),
                  I n_1 n_2 w1 →
                    Br (decide (n_2 < n))
                      (Ret Try.prog 61 [SV.slice b, SV.int IntKind.i64 (wr IntKind.i64 (p1 + n_2))] w1 fun (r : SV) (w1_1 : World) =>
                        ∃ (n : Int),
                          r = SV.int IntKind.u8 n ∧
                            I (ior IntKind.u64 (gshl IntKind.u64 n_1 8) (wr IntKind.u64 n)) (wr IntKind.i64 (n_2 + 1)) w1_1 ∧
                              M (ior IntKind.u64 (gshl IntKind.u64 n_1 8) (wr IntKind.u64 n)) (wr IntKind.i64 (n_2 + 1)) w1_1 < M n_1 n_2 w1)
                      (R (SV.int IntKind.u64 n_1) w1)) →
          J w1) →
      Br (decide (p1 < 0)) False (Br (decide (p1 > (↑b.2 : Int))) False (J w))
theorem f59_of (b : Sl) (p1 : Int) (n : Int) (w : World) (R : SV → World → Prop) (hV : vc59 b p1 n w R) : Ret Try.prog 59 [.slice b, .int .i64 p1, .int .i64 n] w R :=
  have e : vc59 b p1 n w R = fnVC X Try.f59 a59 [.slice b, .int .i64 p1, .int .i64 n] w R := by kernel_rfl
  fnVC_sound X_ok (n := a59) (e ▸ hV) (by kernel_rfl) (by kernel_rfl) rfl rfl

def vc61 (b : Sl) (i : Int) (w : World) (R : SV → World → Prop) : Prop :=
  ∀ (J : World → Prop),
    (∀ (w1 : World),
        Need (decide (0 ≤ i) && decide (i < (↑b.2 : Int)) && Option.isSome b.1)
            (∃ (n : Int), World.cell? w1 (Sl.at b 1 (Int.toNat i)) = some (Value.int IntKind.u8 n) ∧ R (SV.int IntKind.u8 n) w1) →
          J w1) →
      Br (decide (i < 0)) False (Br (decide (i ≥ (↑b.2 : Int))) False (J w))
theorem f61_of (b : Sl) (i : Int) (w : World) (R : SV → World → Prop) (hV : vc61 b i w R) : Ret Try.prog 61 [.slice b, .int .i64 i] w R :=
  have e : vc61 b i w R = fnVC X Try.f61 a61 [.slice b, .int .i64 i] w R := by kernel_rfl
  fnVC_sound X_ok (n := a61) (e ▸ hV) (by kernel_rfl) (by kernel_rfl) rfl rfl

def vc21 (w : World) (R : SV → World → Prop) : Prop :=
  ∀ (b : Nat) (w1 : World),
    Upd [] [b] w w1 →
      R
        (SV.struct
          [SV.int IntKind.i64 1, SV.arr IntKind.u8 6 (fset (fset (fset (fset (fset (fset (fun (x : Nat) => 0) 0 2) 1 0) 2 0) 3 0) 4 0) 5 1),
            SV.struct [SV.int IntKind.i64 4, SV.arr IntKind.u8 16 fun (x : Nat) => 0], SV.arr IntKind.u8 6 fun (x : Nat) => 0,
            SV.struct [SV.int IntKind.i64 4, SV.arr IntKind.u8 16 fun (x : Nat) => 0]])
        w1
theorem f21_of (w : World) (R : SV → World → Prop) (hV : vc21 w R) : Ret Try.prog 21 [] w R :=
  have e : vc21 w R = fnVC X Try.f21 a21 [] w R := by kernel_rfl
  fnVC_sound X_ok (n := a21) (e ▸ hV) (by kernel_rfl) (by kernel_rfl) rfl rfl

def vc22 (b : Sl) (w : World) (R : SV → World → Prop) : Prop := ∀ (b_1 : Nat), Br (decide ((↑b.2 : Int) > 65535)) (∀ (w1 : World), Upd [] [b_1] w w1 → R
  (SV.tuple [SV.struct [SV.int IntKind.i64 0, SV.arr IntKind.u8 6 fun (x : Nat) => 0, SV.struct [SV.int IntKind.i64 0, SV.arr IntKind.u8 16 fun (x : Nat)
  => 0], SV.arr IntKind.u8 6 fun (x : Nat) => 0, SV.struct [SV.int IntKind.i64 0, SV.arr IntKind.u8 16 fun (x : Nat) => 0]], SV.int IntKind.i64 2]) w1) (Br
  (decide ((↑b.2 : Int) < 28)) (∀ (w1 : World), Upd [] [b_1] w w1 → R (SV.tuple [SV.struct [SV.int IntKind.i64 0, SV.arr IntKind.u8 6 fun (x : Nat) => 0,
  SV.struct [SV.int IntKind.i64 0, SV.arr IntKind.u8 16 fun (x : Nat) => 0], SV.arr IntKind.u8 6 fun (x : Nat) => 0, SV.struct [SV.int IntKind.i64 0, SV.arr
  IntKind.u8 16 fun (x : Nat) => 0]], SV.int IntKind.i64 55]) w1) (Need (decide (6 ≤ (↑b.3 : Int))) (BytesStr w (Sl.sub b 1 0 6 b.3) fun (b_2 : ByteArray)
  => Br (!b_2 == { data := { toList := [0, 1, 8, 0, 6, 4] } }) (∀ (w1 : World), Upd [] [b_1] w w1 → R (SV.tuple [SV.struct [SV.int IntKind.i64 0, SV.arr IntKind.u8
  6 fun (x : Nat) => 0, SV.struct [SV.int IntKind.i64 0, SV.arr IntKind.u8 16 fun (x : Nat) => 0], SV.arr IntKind.u8 6 fun (x : Nat) => 0, SV.struct [SV.int
  IntKind.i64 0, SV.arr IntKind.u8 16 fun (x : Nat) => 0]], SV.int IntKind.i64 56]) w1) (∀ (w1 : World), Upd [] [b_1] w w1 → Ret Try.prog 45 [SV.slice b,
  SV.int IntKind.i64 6, SV.int IntKind.i64 2] w1 fun (r : SV) (w1_1 : World) => ∃ (n : Int), ∃ (n_1 : Int), r = SV.tuple [SV.int IntKind.u64 n, SV.int IntKind.i64
  n_1] ∧ Keeps [b_1] w1 w1_1 ∧ Need (decide (14 ≤ (↑b.3 : Int)) && decide (8 ≤ 14)) (Need (decide (6 ≤ (Sl.sub b 1 8 14 b.3).2) && Option.isSome (Sl.sub b
  1 8 14 b.3).1) (∃ (f : Nat → Int), (∀ (i : Nat), i < 6 → World.cell? w1_1 (Addr.add (Sl.at (Sl.sub b 1 8 14 b.3) 0 0) (0 + i)) = some (Value.int IntKind.u8
  (f i))) ∧ Need (decide (18 ≤ (↑b.3 : Int)) && decide (14 ≤ 18)) (Need (decide (24 ≤ (↑b.3 : Int)) && decide (18 ≤ 24)) (Need (decide (6 ≤ (Sl.sub b 1 18
  24 b.3).2) && Option.isSome (Sl.sub b 1 18 24 b.3).1) (∃ (f_1 : Nat → Int), (∀ (i : Nat), i < 6 → World.cell? w1_1 (Addr.add (Sl.at (Sl.sub b 1 18 24 b.3)
  0 0) (0 + i)) = some (Value.int IntKind.u8 (f_1 i))) ∧ Need (decide (28 ≤ (↑b.3 : Int)) && decide (24 ≤ 28)) ((∀ (w1 : World), Upd [] [] w1_1 w1 → Ret Try.prog
  43 [SV.slice (Sl.sub b 1 14 18 b.3)] w1 fun (r : SV) (w1_2 : World) => ∃ (n_2 : Int), ∃ (f_2 : Nat → Int), r = SV.struct [SV.int IntKind.i64 n_2, SV.arr
  IntKind.u8 16 f_2] ∧ Keeps [b_1] w1 w1_2 ∧ Upd [] [] w1_1 w1_2 ∧ (Ret Try.prog 43 [SV.slice (Sl.sub b 1 24 28 b.3)] w1_2 fun (r : SV) (w1 : World) => ∃
  (n_3 : Int), ∃ (f_3 : Nat → Int), r = SV.struct [SV.int IntKind.i64 n_3, SV.arr IntKind.u8 16 f_3] ∧ Keeps [b_1] w1_2 w1 ∧ Upd [] [] w1_1 w1 ∧ ∀ (b : Nat),
  Upd [] [] w1_1 w1 ∧ ∀ (w1_3 : World), Upd [] [b] w1 w1_3 → Ret Try.prog 42 [SV.int IntKind.i64 (wr IntKind.i64 n), SV.arr IntKind.u8 6 f] w1_3 fun (r :
  SV) (w1 : World) => ∃ (n_4 : Int), r = SV.int IntKind.i64 n_4 ∧ Keeps [b_1, b] w1_3 w1 ∧ Br (n_4 != 0) (∀ (w1_4 : World), Upd [b_1] [] w1 w1_4 → R (SV.tuple
  [SV.struct [SV.int IntKind.i64 0, SV.arr IntKind.u8 6 fun (x : Nat) => 0, SV.struct [SV.int IntKind.i64 0, SV.arr IntKind.u8 16 fun (x : Nat) => 0], SV.arr
  IntKind.u8 6 fun (x : Nat) => 0, SV.struct [SV.int IntKind.i64 0, SV.arr IntKind.u8 16 fun (x : Nat) => 0]], SV.int IntKind.i64 n_4]) w1_4) (∀ (w1_4 : World),
  Upd [b_1] [] w1 w1_4 → R (SV.tuple [SV.struct [SV.int IntKind.i64 (wr IntKind.i64 n), SV.arr IntKind.u8 6 f, SV.struct [SV.int IntKind.i64 n_2, SV.arr IntKind.u8
  16 f_2], SV.arr IntKind.u8 6 f_1, SV.struct [SV.int IntKind.i64 n_3, SV.arr IntKind.u8 16 f_3]], SV.int IntKind.i64 0]) w1_4)) ∧ ∀ (b_3 : Nat), Upd [] []
  w1_1 w1_2 ∧ ∀ (w1 : World), Upd [] [b_3] w1_2 w1 → Ret Try.prog 43 [SV.slice (Sl.sub b 1 24 28 b.3)] w1 fun (r : SV) (w1_3 : World) => ∃ (n_3 : Int), ∃
  (f_3 : Nat → Int), r = SV.struct [SV.int IntKind.i64 n_3, SV.arr IntKind.u8 16 f_3] ∧ Keeps [b_1, b_3] w1 w1_3 ∧ Upd [] [] w1_1 w1_3 ∧ ∀ (w1 : World), Upd
  [b_3] [] w1_3 w1 → Ret Try.prog 42 [SV.int IntKind.i64 (wr IntKind.i64 n), SV.arr IntKind.u8 6 f] w1 fun (r : SV) (w1_4 : World) => ∃ (n_4 : Int), r = SV.int
  IntKind.i64 n_4 ∧ Keeps [b_1, b_3] w1 w1_4 ∧ Br (n_4 != 0) (∀ (w1 : World), Upd [b_1] [] w1_4 w1 → R (SV.tuple [SV.struct [SV.int IntKind.i64 0, SV.arr
  IntKind.u8 6 fun (x : Nat) => 0, SV.struct [SV.int IntKind.i64 0, SV.arr IntKind.u8 16 fun (x : Nat) => 0], SV.arr IntKind.u8 6 fun (x : Nat) => 0, SV.struct
  [SV.int IntKind.i64 0, SV.arr IntKind.u8 16 fun (x : Nat) => 0]], SV.int IntKind.i64 n_4]) w1) (∀ (w1 : World), Upd [b_1] [] w1_4 w1 → R (SV.tuple [SV.struct
  [SV.int IntKind.i64 (wr IntKind.i64 n), SV.arr IntKind.u8 6 f, SV.struct [SV.int IntKind.i64 n_2, SV.arr IntKind.u8 16 f_2], SV.arr IntKind.u8 6 f_1, SV.struct
  [SV.int IntKind.i64 n_3, SV.arr IntKind.u8 16 f_3]], SV.int IntKind.i64 0]) w1)) ∧ ∀ (b_3 : Nat), Upd [] [] w1_1 w1_1 ∧ ∀ (w1 : World), Upd [] [b_3] w1_1
  w1 → Ret Try.prog 43 [SV.slice (Sl.sub b 1 14 18 b.3)] w1 fun (r : SV) (w1_2 : World) => ∃ (n_2 : Int), ∃ (f_2 : Nat → Int), r = SV.struct [SV.int IntKind.i64
  n_2, SV.arr IntKind.u8 16 f_2] ∧ Keeps [b_1, b_3] w1 w1_2 ∧ Upd [] [] w1_1 w1_2 ∧ Ret Try.prog 43 [SV.slice (Sl.sub b 1 24 28 b.3)] w1_2 fun (r : SV) (w1
  : World) => ∃ (n_3 : Int), ∃ (f_3 : Nat → Int), r = SV.struct [SV.int IntKind.i64 n_3, SV.arr IntKind.u8 16 f_3] ∧ Keeps [b_1, b_3] w1_2 w1 ∧ Upd [] []
  w1_1 w1 ∧ ∀ (w1_3 : World), Upd [b_3] [] w1 w1_3 → Ret Try.prog 42 [SV.int IntKind.i64 (wr IntKind.i64 n), SV.arr IntKind.u8 6 f] w1_3 fun (r : SV) (w1
  : World) => ∃ (n_4 : Int), r = SV.int IntKind.i64 n_4 ∧ Keeps [b_1, b_3] w1_3 w1 ∧ Br (n_4 != 0) (∀ (w1_4 : World), Upd [b_1] [] w1 w1_4 → R (SV.tuple [SV.struct
  [SV.int IntKind.i64 0, SV.arr IntKind.u8 6 fun (x : Nat) => 0, SV.struct [SV.int IntKind.i64 0, SV.arr IntKind.u8 16 fun (x : Nat) => 0], SV.arr IntKind.u8
  6 fun (x : Nat) => 0, SV.struct [SV.int IntKind.i64 0, SV.arr IntKind.u8 16 fun (x : Nat) => 0]], SV.int IntKind.i64 n_4]) w1_4) (∀ (w1_4 : World), Upd
  [b_1] [] w1 w1_4 → R (SV.tuple [SV.struct [SV.int IntKind.i64 (wr IntKind.i64 n), SV.arr IntKind.u8 6 f, SV.struct [SV.int IntKind.i64 n_2, SV.arr IntKind.u8
  16 f_2], SV.arr IntKind.u8 6 f_1, SV.struct [SV.int IntKind.i64 n_3, SV.arr IntKind.u8 16 f_3]], SV.int IntKind.i64 0]) w1_4)))))))))))
theorem f22_of (b : Sl) (w : World) (R : SV → World → Prop) (hV : vc22 b w R) : Ret Try.prog 22 [.slice b] w R :=
  have e : vc22 b w R = fnVC X Try.f22 a22 [.slice b] w R := by kernel_rfl
  fnVC_sound X_ok (n := a22) (e ▸ hV) (by kernel_rfl) (by kernel_rfl) rfl rfl

def vc23 (b : Sl) (w : World) (R : SV → World → Prop) : Prop := ∀ (b_1 b_2 : Nat), Br (decide ((↑b.2 : Int) > 65535)) (∀ (w1 : World), Upd [] [b_2, b_1]
  w w1 → R (SV.tuple [SV.struct [SV.int IntKind.i64 0, SV.arr IntKind.u8 6 fun (x : Nat) => 0, SV.struct [SV.int IntKind.i64 0, SV.arr IntKind.u8 16 fun (x
  : Nat) => 0], SV.arr IntKind.u8 6 fun (x : Nat) => 0, SV.struct [SV.int IntKind.i64 0, SV.arr IntKind.u8 16 fun (x : Nat) => 0]], SV.int IntKind.i64 2])
  w1) (Br (decide ((↑b.2 : Int) < 28)) (∀ (w1 : World), Upd [] [b_2, b_1] w w1 → R (SV.tuple [SV.struct [SV.int IntKind.i64 0, SV.arr IntKind.u8 6 fun (x
  : Nat) => 0, SV.struct [SV.int IntKind.i64 0, SV.arr IntKind.u8 16 fun (x : Nat) => 0], SV.arr IntKind.u8 6 fun (x : Nat) => 0, SV.struct [SV.int IntKind.i64
  0, SV.arr IntKind.u8 16 fun (x : Nat) => 0]], SV.int IntKind.i64 55]) w1) (Need (decide (6 ≤ (↑b.3 : Int))) (BytesStr w (Sl.sub b 1 0 6 b.3) fun (b_3 :
  ByteArray) => Br (!b_3 == { data := { toList := [0, 1, 8, 0, 6, 4] } }) (∀ (w1 : World), Upd [] [b_2, b_1] w w1 → R (SV.tuple [SV.struct [SV.int IntKind.i64
  0, SV.arr IntKind.u8 6 fun (x : Nat) => 0, SV.struct [SV.int IntKind.i64 0, SV.arr IntKind.u8 16 fun (x : Nat) => 0], SV.arr IntKind.u8 6 fun (x : Nat)
  => 0, SV.struct [SV.int IntKind.i64 0, SV.arr IntKind.u8 16 fun (x : Nat) => 0]], SV.int IntKind.i64 56]) w1) (∀ (w1 : World), Upd [] [b_2, b_1] w w1 →
  Ret Try.prog 46 [SV.slice b, SV.int IntKind.i64 6] w1 fun (r : SV) (w1_1 : World) => ∃ (n : Int), r = SV.int IntKind.i64 n ∧ Keeps [b_1, b_2] w1 w1_1 ∧
  ∀ (b_4 : Nat), ∃ (I : Int → Int → (Nat → Int) → Int → (Nat → Int) → (Nat → Int) → Int → (Nat → Int) → World → Prop), ∃ (M : Int → Int → (Nat → Int) → Int
  → (Nat → Int) → (Nat → Int) → Int → (Nat → Int) → World → Nat), (∀ (w1 : World), Upd [] [b_4] w1_1 w1 → I 0 n (fun (x : Nat) => 0) 4 (fun (x : Nat) => 0)
  (fun (x : Nat) => 0) 4 (fun (x : Nat) => 0) w1) ∧ ∀ (n n_1 : Int) (f : Nat → Int) (n_2 : Int) (f_1 f_2 : Nat → Int) (n_3 : Int) (f_3 : Nat → Int) (w1 :
  World), I n n_1 f n_2 f_1 f_2 n_3 f_3 w1 → Br (decide (n < 6)) (Need (decide (0 ≤ wr IntKind.i64 (8 + n)) && decide (wr IntKind.i64 (8 + n) < (↑b.2 : Int))
  && Option.isSome b.1) (∃ (n_4 : Int), World.cell? w1 (Sl.at b 1 (Int.toNat (wr IntKind.i64 (8 + n)))) = some (Value.int IntKind.u8 n_4) ∧ Need (decide (0
  ≤ n) && decide (n < 6)) (Need (decide (0 ≤ wr IntKind.i64 (18 + n)) && decide (wr IntKind.i64 (18 + n) < (↑b.2 : Int)) && Option.isSome b.1) (∀ (w1_2 :
  World), Upd [b_4] [] w1 w1_2 → ∃ (n_5 : Int), World.cell? w1_2 (Sl.at b 1 (Int.toNat (wr IntKind.i64 (18 + n)))) = some (Value.int IntKind.u8 n_5) ∧ Need
  (decide (0 ≤ n) && decide (n < 6)) (∀ (w1_3 : World), Upd [b_4] [] w1_2 w1_3 → some (SV.box b_1 35 (SV.struct [SV.int IntKind.i64 0, SV.arr IntKind.u8 6
  fun (x : Nat) => 0, SV.struct [SV.int IntKind.i64 0, SV.arr IntKind.u8 16 fun (x : Nat) => 0], SV.arr IntKind.u8 6 fun (x : Nat) => 0, SV.struct [SV.int
  IntKind.i64 0, SV.arr IntKind.u8 16 fun (x : Nat) => 0]])) = some (SV.box b_1 35 (SV.struct [SV.int IntKind.i64 0, SV.arr IntKind.u8 6 fun (x : Nat) =>
  0, SV.struct [SV.int IntKind.i64 0, SV.arr IntKind.u8 16 fun (x : Nat) => 0], SV.arr IntKind.u8 6 fun (x : Nat) => 0, SV.struct [SV.int IntKind.i64 0, SV.arr
  IntKind.u8 16 fun (x : Nat) => 0]])) ∧ some (SV.box b_2 35 (SV.struct [SV.int IntKind.i64 0, SV.arr IntKind.u8 6 fun (x : Nat) => 0, SV.struct [SV.int IntKind.i64
  0, SV.arr IntKind.u8 16 fun (x : Nat) => 0], SV.arr IntKind.u8 6 fun (x : Nat) => 0, SV.struct [SV.int IntKind.i64 0, SV.arr IntKind.u8 16 fun (x : Nat)
  => 0]])) = some (SV.box b_2 35 (SV.struct [SV.int IntKind.i64 0, SV.arr IntKind.u8 6 fun (x : Nat) => 0, SV.struct [SV.int IntKind.i64 0, SV.arr IntKind.u8
  16 fun (x : Nat) => 0], SV.arr IntKind.u8 6 fun (x : Nat) => 0, SV.struct [SV.int IntKind.i64 0, SV.arr IntKind.u8 16 fun (x : Nat) => 0]])) ∧ (b_4, 35)
  = (b_4, 35) ∧ I (wr IntKind.i64 (n + 1)) n_1 (fset f (Int.toNat n) n_4) n_2 f_1 (fset f_2 (Int.toNat n) n_5) n_3 f_3 w1_3 ∧ M (wr IntKind.i64 (n + 1)) n_1
  (fset f (Int.toNat n) n_4) n_2 f_1 (fset f_2 (Int.toNat n) n_5) n_3 f_3 w1_3 < M n n_1 f n_2 f_1 f_2 n_3 f_3 w1))))) (∃ (I : Int → Int → (Nat → Int) → Int
  → (Nat → Int) → (Nat → Int) → Int → (Nat → Int) → World → Prop), ∃ (M : Int → Int → (Nat → Int) → Int → (Nat → Int) → (Nat → Int) → Int → (Nat → Int) →
  World → Nat), I 0 n_1 f n_2 f_1 f_2 n_3 f_3 w1 ∧ ∀ (n n_4 : Int) (f : Nat → Int) (n_5 : Int) (f_4 f_5 : Nat → Int) (n_6 : Int) (f_6 : Nat → Int) (w1 : World),
  I n n_4 f n_5 f_4 f_5 n_6 f_6 w1 → Br (decide (n < 4)) (Need (decide (0 ≤ wr IntKind.i64 (14 + n)) && decide (wr IntKind.i64 (14 + n) < (↑b.2 : Int)) &&
  Option.isSome b.1) (∃ (n_7 : Int), World.cell? w1 (Sl.at b 1 (Int.toNat (wr IntKind.i64 (14 + n)))) = some (Value.int IntKind.u8 n_7) ∧ Need (decide (0
  ≤ n) && decide (n < 16)) (Need (decide (0 ≤ wr IntKind.i64 (24 + n)) && decide (wr IntKind.i64 (24 + n) < (↑b.2 : Int)) && Option.isSome b.1) (∀ (w1_2 :
  World), Upd [b_4] [] w1 w1_2 → ∃ (n_8 : Int), World.cell? w1_2 (Sl.at b 1 (Int.toNat (wr IntKind.i64 (24 + n)))) = some (Value.int IntKind.u8 n_8) ∧ Need
  (decide (0 ≤ n) && decide (n < 16)) (∀ (w1_3 : World), Upd [b_4] [] w1_2 w1_3 → some (SV.box b_1 35 (SV.struct [SV.int IntKind.i64 0, SV.arr IntKind.u8
  6 fun (x : Nat) => 0, SV.struct [SV.int IntKind.i64 0, SV.arr IntKind.u8 16 fun (x : Nat) => 0], SV.arr IntKind.u8 6 fun (x : Nat) => 0, SV.struct [SV.int
  IntKind.i64 0, SV.arr IntKind.u8 16 fun (x : Nat) => 0]])) = some (SV.box b_1 35 (SV.struct [SV.int IntKind.i64 0, SV.arr IntKind.u8 6 fun (x : Nat) =>
  0, SV.struct [SV.int IntKind.i64 0, SV.arr IntKind.u8 16 fun (x : Nat) => 0], SV.arr IntKind.u8 6 fun (x : Nat) => 0, SV.struct [SV.int IntKind.i64 0, SV.arr
  IntKind.u8 16 fun (x : Nat) => 0]])) ∧ some (SV.box b_2 35 (SV.struct [SV.int IntKind.i64 0, SV.arr IntKind.u8 6 fun (x : Nat) => 0, SV.struct [SV.int IntKind.i64
  0, SV.arr IntKind.u8 16 fun (x : Nat) => 0], SV.arr IntKind.u8 6 fun (x : Nat) => 0, SV.struct [SV.int IntKind.i64 0, SV.arr IntKind.u8 16 fun (x : Nat)
  => 0]])) = some (SV.box b_2 35 (SV.struct [SV.int IntKind.i64 0, SV.arr IntKind.u8 6 fun (x : Nat) => 0, SV.struct [SV.int IntKind.i64 0, SV.arr IntKind.u8
  16 fun (x : Nat) => 0], SV.arr IntKind.u8 6 fun (x : Nat) => 0, SV.struct [SV.int IntKind.i64 0, SV.arr IntKind.u8 16 fun (x : Nat) => 0]])) ∧ (b_4, 35)
  = (b_4, 35) ∧ I (wr IntKind.i64 (n + 1)) n_4 f n_5 (fset f_4 (Int.toNat n) n_7) f_5 n_6 (fset f_6 (Int.toNat n) n_8) w1_3 ∧ M (wr IntKind.i64 (n + 1)) n_4
  f n_5 (fset f_4 (Int.toNat n) n_7) f_5 n_6 (fset f_6 (Int.toNat n) n_8) w1_3 < M n n_4 f n_5 f_4 f_5 n_6 f_6 w1))))) (∀ (J : Int → (Nat → Int) → Int → (Nat
  → Int) → (Nat → Int) → Int → (Nat → Int) → World → Prop), (∀ (n : Int) (f_7 : Nat → Int) (n_7 : Int) (f_8 f_9 : Nat → Int) (n_8 : Int) (f_10 : Nat → Int)
  (w1 : World), (Ret Try.prog 47 [SV.arr IntKind.u8 6 f] w1 fun (r : SV) (w1_2 : World) => ∃ (b : Bool), r = SV.bool b ∧ Keeps [b_1, b_2, b_4] w1 w1_2 ∧ Br
  (!b) (∀ (w1 : World), Upd [b_1] [] w1_2 w1 → R (SV.tuple [SV.struct [SV.int IntKind.i64 0, SV.arr IntKind.u8 6 fun (x : Nat) => 0, SV.struct [SV.int IntKind.i64
  0, SV.arr IntKind.u8 16 fun (x : Nat) => 0], SV.arr IntKind.u8 6 fun (x : Nat) => 0, SV.struct [SV.int IntKind.i64 0, SV.arr IntKind.u8 16 fun (x : Nat)
  => 0]], SV.int IntKind.i64 58]) w1) (∀ (w1 : World), Upd [b_1] [] w1_2 w1 → R (SV.tuple [SV.struct [SV.int IntKind.i64 n_4, SV.arr IntKind.u8 6 f, SV.struct
  [SV.int IntKind.i64 n_5, SV.arr IntKind.u8 16 f_4], SV.arr IntKind.u8 6 f_5, SV.struct [SV.int IntKind.i64 n_6, SV.arr IntKind.u8 16 f_6]], SV.int IntKind.i64
  0]) w1)) → J n f_7 n_7 f_8 f_9 n_8 f_10 w1) → Br (n_4 != 1) (Br (n_4 != 2) (∀ (w1_2 : World), Upd [b_1] [] w1 w1_2 → R (SV.tuple [SV.struct [SV.int IntKind.i64
  0, SV.arr IntKind.u8 6 fun (x : Nat) => 0, SV.struct [SV.int IntKind.i64 0, SV.arr IntKind.u8 16 fun (x : Nat) => 0], SV.arr IntKind.u8 6 fun (x : Nat)
  => 0, SV.struct [SV.int IntKind.i64 0, SV.arr IntKind.u8 16 fun (x : Nat) => 0]], SV.int IntKind.i64 57]) w1_2) (some (SV.box b_2 35 (SV.struct [SV.int
  IntKind.i64 0, SV.arr IntKind.u8 6 fun (x : Nat) => 0, SV.struct [SV.int IntKind.i64 0, SV.arr IntKind.u8 16 fun (x : Nat) => 0], SV.arr IntKind.u8 6 fun
  (x : Nat) => 0, SV.struct [SV.int IntKind.i64 0, SV.arr IntKind.u8 16 fun (x : Nat) => 0]])) = some (SV.box b_2 35 (SV.struct [SV.int IntKind.i64 0, SV.arr
  IntKind.u8 6 fun (x : Nat) => 0, SV.struct [SV.int IntKind.i64 0, SV.arr IntKind.u8 16 fun (x : Nat) => 0], SV.arr IntKind.u8 6 fun (x : Nat) => 0, SV.struct
  [SV.int IntKind.i64 0, SV.arr IntKind.u8 16 fun (x : Nat) => 0]])) ∧ some (SV.box b_4 35 (SV.struct [SV.int IntKind.i64 n_4, SV.arr IntKind.u8 6 f, SV.struct
  [SV.int IntKind.i64 n_5, SV.arr IntKind.u8 16 f_4], SV.arr IntKind.u8 6 f_5, SV.struct [SV.int IntKind.i64 n_6, SV.arr IntKind.u8 16 f_6]])) = some (SV.box
  b_4 35 (SV.struct [SV.int IntKind.i64 n_4, SV.arr IntKind.u8 6 f, SV.struct [SV.int IntKind.i64 n_5, SV.arr IntKind.u8 16 f_4], SV.arr IntKind.u8 6 f_5,
  SV.struct [SV.int IntKind.i64 n_6, SV.arr IntKind.u8 16 f_6]])) ∧ (b_1, 35) = (b_1, 35) ∧ J 0 (fun (x : Nat) => 0) 0 (fun (x : Nat) => 0) (fun (x : Nat)
  => 0) 0 (fun (x : Nat) => 0) w1)) (some (SV.box b_2 35 (SV.struct [SV.int IntKind.i64 0, SV.arr IntKind.u8 6 fun (x : Nat) => 0, SV.struct [SV.int IntKind.i64
  0, SV.arr IntKind.u8 16 fun (x : Nat) => 0], SV.arr IntKind.u8 6 fun (x : Nat) => 0, SV.struct [SV.int IntKind.i64 0, SV.arr IntKind.u8 16 fun (x : Nat)
  => 0]])) = some (SV.box b_2 35 (SV.struct [SV.int IntKind.i64 0, SV.arr IntKind.u8 6 fun (x : Nat) => 0, SV.struct [SV.int IntKind.i64 0, SV.arr IntKind.u8
  16 fun (x : Nat) => 0], SV.arr IntKind.u8 6 fun (x : Nat) => 0, SV.struct [SV.int IntKind.i64 0, SV.arr IntKind.u8 16 fun (x : Nat) => 0]])) ∧ some (SV.box
  b_4 35 (SV.struct [SV.int IntKind.i64 n_4, SV.arr IntKind.u8 6 f, SV.struct [SV.int IntKind.i64 n_5, SV.arr IntKind.u8 16 f_4], SV.arr IntKind.u8 6 f_5,
  SV.struct [SV.int IntKind.i64 n_6, SV.arr IntKind.u8 16 f_6]])) = some (SV.box b_4 35 (SV.struct [SV.int IntKind.i64 n_4, SV.arr IntKind.u8 6 f, SV.struct
  [SV.int IntKind.i64 n_5, SV.arr IntKind.u8 16 f_4], SV.arr IntKind.u8 6 f_5, SV.struct [SV.int IntKind.i64 n_6, SV.arr IntKind.u8 16 f_6]])) ∧ (b_1, 35)
  = (b_1, 35) ∧ J 0 (fun (x : Nat) => 0) 0 (fun (x : Nat) => 0) (fun (x : Nat) => 0) 0 (fun (x : Nat) => 0) w1)))))))
theorem f23_of (b : Sl) (w : World) (R : SV → World → Prop) (hV : vc23 b w R) : Ret Try.prog 23 [.slice b] w R :=
  have e : vc23 b w R = fnVC X Try.f23 a23 [.slice b] w R := by kernel_rfl
  fnVC_sound X_ok (n := a23) (e ▸ hV) (by kernel_rfl) (by kernel_rfl) rfl rfl

def vc24 (a_0 : Int) (a_1 : Nat → Int) (a_2_0 : Int) (a_2_1 : Nat → Int) (a_3 : Nat → Int) (a_4_0 : Int) (a_4_1 : Nat → Int) (w : World) (R : SV → World
  → Prop) : Prop := ∀ (b : Nat) (J : World → Prop), (∀ (w1 : World), (Ret Try.prog 47 [SV.arr IntKind.u8 6 a_1] w1 fun (r : SV) (w1_1 : World) => ∃ (b_1 :
  Bool), r = SV.bool b_1 ∧ Keeps [b] w1 w1_1 ∧ Br (!b_1) (R (SV.tuple [SV.slice { ptr := none, len := 0, cap := 0 }, SV.int IntKind.i64 58]) w1_1) (∀ (J :
  World → Prop), (∀ (w1 : World), (∀ (b_2 : Nat) (w1_2 : World), Upd [] [b_2] w1 w1_2 → (World.heap w1_2)[b_2]? = some (Obj.cells { toList := SV.cells (SV.struct [SV.int IntKind.u8 0, SV.int IntKind.u8 1, SV.int IntKind.u8 8, SV.int IntKind.u8 0, SV.int IntKind.u8 6, SV.int IntKind.u8 4, SV.int IntKind.u8 0, SV.int IntKind.u8 (wr IntKind.u8 a_0)]) }
  5) → ∃ (I : Sl → Int → World → Prop), ∃ (M : Sl → Int → World → Nat), I { ptr := some { block := b_2, off := 0 }, len := 8, cap := 8 } 0 w1_2 ∧ ∀ (s : Sl)
  (n : Int) (w1 : World), I s n w1 → Br (decide (n < 6)) (Need (decide (0 ≤ n) && decide (n < 6)) (∀ (b_3 : Nat) (w1_3 : World), Upd [] [b_3] w1 w1_3 → (World.heap
  w1_3)[b_3]? = some (Obj.cells { toList := SV.cells (SV.struct [SV.int IntKind.u8 (a_1 (Int.toNat n))]) } 5) → Vc.Append 5 1 1 s { ptr := some { block := b_3, off := 0 }, len := 1, cap := 1 }
  [b] w1_3 fun (r : Sl) (w : World) => some (SV.box b 35 (SV.struct [SV.int IntKind.i64 a_0, SV.arr IntKind.u8 6 a_1, SV.struct [SV.int IntKind.i64 a_2_0,
  SV.arr IntKind.u8 16 a_2_1], SV.arr IntKind.u8 6 a_3, SV.struct [SV.int IntKind.i64 a_4_0, SV.arr IntKind.u8 16 a_4_1]])) = some (SV.box b 35 (SV.struct
  [SV.int IntKind.i64 a_0, SV.arr IntKind.u8 6 a_1, SV.struct [SV.int IntKind.i64 a_2_0, SV.arr IntKind.u8 16 a_2_1], SV.arr IntKind.u8 6 a_3, SV.struct [SV.int
  IntKind.i64 a_4_0, SV.arr IntKind.u8 16 a_4_1]])) ∧ I r (wr IntKind.i64 (n + 1)) w ∧ M r (wr IntKind.i64 (n + 1)) w < M s n w1)) (∀ (b_3 : Nat) (w1_3 :
  World), Upd [] [b_3] w1 w1_3 → (World.heap w1_3)[b_3]? = some (Obj.cells { toList := SV.cells (SV.struct [SV.int IntKind.u8 (a_2_1 0), SV.int IntKind.u8 (a_2_1 1), SV.int IntKind.u8 (a_2_1 2), SV.int IntKind.u8 (a_2_1 3)]) }
  5) → Vc.Append 5 1 1 s { ptr := some { block := b_3, off := 0 }, len := 4, cap := 4 } [b] w1_3 fun (r : Sl) (w : World) => ∃ (I : Sl → Int → World → Prop),
  ∃ (M : Sl → Int → World → Nat), I r 0 w ∧ ∀ (s : Sl) (n : Int) (w1 : World), I s n w1 → Br (decide (n < 6)) (Need (decide (0 ≤ n) && decide (n < 6)) (∀
  (b_4 : Nat) (w1_4 : World), Upd [] [b_4] w1 w1_4 → (World.heap w1_4)[b_4]? = some (Obj.cells { toList := SV.cells (SV.struct [SV.int IntKind.u8 (a_3 (Int.toNat n))]) }
  5) → Vc.Append 5 1 1 s { ptr := some { block := b_4, off := 0 }, len := 1, cap := 1 } [b] w1_4 fun (r : Sl) (w : World) => some (SV.box b 35 (SV.struct
  [SV.int IntKind.i64 a_0, SV.arr IntKind.u8 6 a_1, SV.struct [SV.int IntKind.i64 a_2_0, SV.arr IntKind.u8 16 a_2_1], SV.arr IntKind.u8 6 a_3, SV.struct [SV.int
  IntKind.i64 a_4_0, SV.arr IntKind.u8 16 a_4_1]])) = some (SV.box b 35 (SV.struct [SV.int IntKind.i64 a_0, SV.arr IntKind.u8 6 a_1, SV.struct [SV.int IntKind.i64
  a_2_0, SV.arr IntKind.u8 16 a_2_1], SV.arr IntKind.u8 6 a_3, SV.struct [SV.int IntKind.i64 a_4_0, SV.arr IntKind.u8 16 a_4_1]])) ∧ I r (wr IntKind.i64 (n
  + 1)) w ∧ M r (wr IntKind.i64 (n + 1)) w < M s n w1)) (∀ (b_4 : Nat) (w1_4 : World), Upd [] [b_4] w1 w1_4 → (World.heap w1_4)[b_4]? = some (Obj.cells { toList := SV.cells (SV.struct [SV.int IntKind.u8 (a_4_1 0), SV.int IntKind.u8 (a_4_1 1), SV.int IntKind.u8 (a_4_1 2), SV.int IntKind.u8 (a_4_1 3)]) }
  5) → Vc.Append 5 1 1 s { ptr := some { block := b_4, off := 0 }, len := 4, cap := 4 } [b] w1_4 fun (r : Sl) (w : World) => R (SV.tuple [SV.slice r, SV.int
  IntKind.i64 0]) w))) → J w1) → Br (a_2_0 != 4) (R (SV.tuple [SV.slice { ptr := none, len := 0, cap := 0 }, SV.int IntKind.i64 20]) w1_1) (Br (a_4_0 != 4)
  (R (SV.tuple [SV.slice { ptr := none, len := 0, cap := 0 }, SV.int IntKind.i64 20]) w1_1) (Ret Try.prog 48 [SV.struct [SV.int IntKind.i64 a_2_0, SV.arr
  IntKind.u8 16 a_2_1]] w1_1 fun (r : SV) (w1 : World) => ∃ (b_2 : Bool), r = SV.bool b_2 ∧ Keeps [b] w1_1 w1 ∧ Br (!b_2) (R (SV.tuple [SV.slice { ptr := none, len := 0, cap := 0 },
  SV.int IntKind.i64 20]) w1) (Ret Try.prog 48 [SV.struct [SV.int IntKind.i64 a_4_0, SV.arr IntKind.u8 16 a_4_1]] w1 fun (r : SV) (w1_2 : World) => ∃ (b_3
  : Bool), r = SV.bool b_3 ∧ Keeps [b] w1 w1_2 ∧ Br (!b_3) (R (SV.tuple [SV.slice { ptr := none, len := 0, cap := 0 }, SV.int IntKind.i64 20]) w1_2) (some
  (SV.box b 35 (SV.struct [SV.int IntKind.i64 a_0, SV.arr IntKind.u8 6 a_1, SV.struct [SV.int IntKind.i64 a_2_0, SV.arr IntKind.u8 16 a_2_1], SV.arr IntKind.u8
  6 a_3, SV.struct [SV.int IntKind.i64 a_4_0, SV.arr IntKind.u8 16 a_4_1]])) = some (SV.box b 35 (SV.struct [SV.int IntKind.i64 a_0, SV.arr IntKind.u8 6 a_1,
  SV.struct [SV.int IntKind.i64 a_2_0, SV.arr IntKind.u8 16 a_2_1], SV.arr IntKind.u8 6 a_3, SV.struct [SV.int IntKind.i64 a_4_0, SV.arr IntKind.u8 16 a_4_1]]))
  ∧ J w1_2)))))) → J w1) → Br (a_0 != 1) (Br (a_0 != 2) (∀ (w1 : World), Upd [] [b] w w1 → R (SV.tuple [SV.slice { ptr := none, len := 0, cap := 0 }, SV.int
  IntKind.i64 57]) w1) (∀ (w1 : World), Upd [] [b] w w1 → some (SV.box b 35 (SV.struct [SV.int IntKind.i64 a_0, SV.arr IntKind.u8 6 a_1, SV.struct [SV.int
  IntKind.i64 a_2_0, SV.arr IntKind.u8 16 a_2_1], SV.arr IntKind.u8 6 a_3, SV.struct [SV.int IntKind.i64 a_4_0, SV.arr IntKind.u8 16 a_4_1]])) = some (SV.box
  b 35 (SV.struct [SV.int IntKind.i64 a_0, SV.arr IntKind.u8 6 a_1, SV.struct [SV.int IntKind.i64 a_2_0, SV.arr IntKind.u8 16 a_2_1], SV.arr IntKind.u8 6
  a_3, SV.struct [SV.int IntKind.i64 a_4_0, SV.arr IntKind.u8 16 a_4_1]])) ∧ J w1)) (∀ (w1 : World), Upd [] [b] w w1 → some (SV.box b 35 (SV.struct [SV.int
  IntKind.i64 a_0, SV.arr IntKind.u8 6 a_1, SV.struct [SV.int IntKind.i64 a_2_0, SV.arr IntKind.u8 16 a_2_1], SV.arr IntKind.u8 6 a_3, SV.struct [SV.int IntKind.i64
  a_4_0, SV.arr IntKind.u8 16 a_4_1]])) = some (SV.box b 35 (SV.struct [SV.int IntKind.i64 a_0, SV.arr IntKind.u8 6 a_1, SV.struct [SV.int IntKind.i64 a_2_0,
  SV.arr IntKind.u8 16 a_2_1], SV.arr IntKind.u8 6 a_3, SV.struct [SV.int IntKind.i64 a_4_0, SV.arr IntKind.u8 16 a_4_1]])) ∧ J w1)
theorem f24_of (a_0 : Int) (a_1 : Nat → Int) (a_2_0 : Int) (a_2_1 : Nat → Int) (a_3 : Nat → Int) (a_4_0 : Int) (a_4_1 : Nat → Int) (w : World) (R : SV → World → Prop) (hV : vc24 a_0 a_1 a_2_0 a_2_1 a_3 a_4_0 a_4_1 w R) : Ret Try.prog 24 [.struct [.int .i64 a_0, .arr .u8 6 a_1, .struct [.int .i64 a_2_0, .arr .u8 16 a_2_1], .arr .u8 6 a_3, .struct [.int .i64 a_4_0, .arr .u8 16 a_4_1]]] w R :=
  have e : vc24 a_0 a_1 a_2_0 a_2_1 a_3 a_4_0 a_4_1 w R = fnVC X Try.f24 a24 [.struct [.int .i64 a_0, .arr .u8 6 a_1, .struct [.int .i64 a_2_0, .arr .u8 16 a_2_1], .arr .u8 6 a_3, .struct [.int .i64 a_4_0, .arr .u8 16 a_4_1]]] w R := by kernel_rfl
  fnVC_sound X_ok (n := a24) (e ▸ hV) (by kernel_rfl) (by kernel_rfl) rfl rfl

def vc5 (b : Sl) (a_0 : Int) (a_1 : Nat → Int) (a_2_0 : Int) (a_2_1 : Nat → Int) (a_3 : Nat → Int) (a_4_0 : Int) (a_4_1 : Nat → Int) (w : World) (R : SV
  → World → Prop) : Prop := ∀ (b_1 : Nat) (w1 : World), Upd [] [b_1] w w1 → Ret Try.prog 21 [] w1 fun (r : SV) (w1_1 : World) => ∃ (n : Int), ∃ (f : Nat →
  Int), ∃ (n_1 : Int), ∃ (f_1 : Nat → Int), ∃ (f_2 : Nat → Int), ∃ (n_2 : Int), ∃ (f_3 : Nat → Int), r = SV.struct [SV.int IntKind.i64 n, SV.arr IntKind.u8
  6 f, SV.struct [SV.int IntKind.i64 n_1, SV.arr IntKind.u8 16 f_1], SV.arr IntKind.u8 6 f_2, SV.struct [SV.int IntKind.i64 n_2, SV.arr IntKind.u8 16 f_3]]
  ∧ Keeps [b_1] w1 w1_1 ∧ Ret Try.prog 20 [SV.struct [SV.int IntKind.i64 n, SV.arr IntKind.u8 6 f, SV.struct [SV.int IntKind.i64 n_1, SV.arr IntKind.u8 16
  f_1], SV.arr IntKind.u8 6 f_2, SV.struct [SV.int IntKind.i64 n_2, SV.arr IntKind.u8 16 f_3]]] w1_1 fun (r : SV) (w1 : World) => ∃ (s : Sl), ∃ (n : Int),
  r = SV.tuple [SV.slice s, SV.int IntKind.i64 n] ∧ Keeps [b_1] w1_1 w1 ∧ ∀ (J : World → Prop), (∀ (w1 : World), (Ret Try.prog 16 [SV.slice b] w1 fun (r :
  SV) (w1_2 : World) => ∃ (s : Sl), ∃ (s_1 : Sl), r = SV.tuple [SV.slice s, SV.slice s_1] ∧ Keeps [b_1] w1 w1_2 ∧ Ret Try.prog 22 [SV.slice s] w1_2 fun (r
  : SV) (w1 : World) => ∃ (n : Int), ∃ (f : Nat → Int), ∃ (n_3 : Int), ∃ (f_4 : Nat → Int), ∃ (f_5 : Nat → Int), ∃ (n_4 : Int), ∃ (f_6 : Nat → Int), ∃ (n_5
  : Int), r = SV.tuple [SV.struct [SV.int IntKind.i64 n, SV.arr IntKind.u8 6 f, SV.struct [SV.int IntKind.i64 n_3, SV.arr IntKind.u8 16 f_4], SV.arr IntKind.u8
  6 f_5, SV.struct [SV.int IntKind.i64 n_4, SV.arr IntKind.u8 16 f_6]], SV.int IntKind.i64 n_5] ∧ Keeps [b_1] w1_2 w1 ∧ ∀ (b : Nat) (J : World → Prop), (∀
  (w1 : World), (∀ (J : World → Prop), (∀ (w1 : World), (Ret Try.prog 20 [SV.struct [SV.int IntKind.i64 a_0, SV.arr IntKind.u8 6 a_1, SV.struct [SV.int IntKind.i64
  a_2_0, SV.arr IntKind.u8 16 a_2_1], SV.arr IntKind.u8 6 a_3, SV.struct [SV.int IntKind.i64 a_4_0, SV.arr IntKind.u8 16 a_4_1]]] w1 fun (r : SV) (w1_3 :
  World) => ∃ (s : Sl), ∃ (n : Int), r = SV.tuple [SV.slice s, SV.int IntKind.i64 n] ∧ Keeps [b_1, b] w1 w1_3 ∧ Br (n != 0) (R (SV.bool ((↑s.2 : Int) == 0))
  w1_3) (Ret Try.prog 22 [SV.slice s] w1_3 fun (r : SV) (w1 : World) => ∃ (n : Int), ∃ (f : Nat → Int), ∃ (n_6 : Int), ∃ (f_7 : Nat → Int), ∃ (f_8 : Nat →
  Int), ∃ (n_7 : Int), ∃ (f_9 : Nat → Int), ∃ (n_8 : Int), r = SV.tuple [SV.struct [SV.int IntKind.i64 n, SV.arr IntKind.u8 6 f, SV.struct [SV.int IntKind.i64
  n_6, SV.arr IntKind.u8 16 f_7], SV.arr IntKind.u8 6 f_8, SV.struct [SV.int IntKind.i64 n_7, SV.arr IntKind.u8 16 f_9]], SV.int IntKind.i64 n_8] ∧ Keeps
  [b_1, b] w1_3 w1 ∧ ∀ (b : Nat), Br (n_8 == 0) (Br (n == a_0 && (eqArr 6 f a_1 && (n_6 == a_2_0 && eqArr 16 f_7 a_2_1 && (eqArr 6 f_8 a_3 && (n_7 == a_4_0
  && eqArr 16 f_9 a_4_1))))) (∀ (w1_4 : World), Upd [] [b] w1 w1_4 → R (SV.bool ((↑s.2 : Int) == 28)) w1_4) (∀ (w1_4 : World), Upd [] [b] w1 w1_4 → R (SV.bool
  false) w1_4)) (∀ (w1_4 : World), Upd [] [b] w1 w1_4 → R (SV.bool false) w1_4))) → J w1) → Br (n_5 == 0) (Ret Try.prog 20 [SV.struct [SV.int IntKind.i64
  n, SV.arr IntKind.u8 6 f, SV.struct [SV.int IntKind.i64 n_3, SV.arr IntKind.u8 16 f_4], SV.arr IntKind.u8 6 f_5, SV.struct [SV.int IntKind.i64 n_4, SV.arr
  IntKind.u8 16 f_6]]] w1 fun (r : SV) (w1_3 : World) => ∃ (s_2 : Sl), ∃ (n_6 : Int), r = SV.tuple [SV.slice s_2, SV.int IntKind.i64 n_6] ∧ Keeps [b_1, b]
  w1 w1_3 ∧ Br (n_6 != 0) (R (SV.bool false) w1_3) (Need (decide (28 ≤ (↑s.3 : Int))) (Ret Try.prog 19 [SV.slice s_2, SV.slice (Sl.sub s 1 0 28 s.3)] w1_3
  fun (r : SV) (w1 : World) => ∃ (b_2 : Bool), r = SV.bool b_2 ∧ Keeps [b_1, b] w1_3 w1 ∧ Br (!b_2) (R (SV.bool false) w1) (some (SV.box b_1 35 (SV.struct
  [SV.int IntKind.i64 a_0, SV.arr IntKind.u8 6 a_1, SV.struct [SV.int IntKind.i64 a_2_0, SV.arr IntKind.u8 16 a_2_1], SV.arr IntKind.u8 6 a_3, SV.struct [SV.int
  IntKind.i64 a_4_0, SV.arr IntKind.u8 16 a_4_1]])) = some (SV.box b_1 35 (SV.struct [SV.int IntKind.i64 a_0, SV.arr IntKind.u8 6 a_1, SV.struct [SV.int IntKind.i64
  a_2_0, SV.arr IntKind.u8 16 a_2_1], SV.arr IntKind.u8 6 a_3, SV.struct [SV.int IntKind.i64 a_4_0, SV.arr IntKind.u8 16 a_4_1]])) ∧ some (SV.box b 35 (SV.struct
  [SV.int IntKind.i64 n, SV.arr IntKind.u8 6 f, SV.struct [SV.int IntKind.i64 n_3, SV.arr IntKind.u8 16 f_4], SV.arr IntKind.u8 6 f_5, SV.struct [SV.int IntKind.i64
  n_4, SV.arr IntKind.u8 16 f_6]])) = some (SV.box b 35 (SV.struct [SV.int IntKind.i64 n, SV.arr IntKind.u8 6 f, SV.struct [SV.int IntKind.i64 n_3, SV.arr
  IntKind.u8 16 f_4], SV.arr IntKind.u8 6 f_5, SV.struct [SV.int IntKind.i64 n_4, SV.arr IntKind.u8 16 f_6]])) ∧ J w1)))) (some (SV.box b_1 35 (SV.struct
  [SV.int IntKind.i64 a_0, SV.arr IntKind.u8 6 a_1, SV.struct [SV.int IntKind.i64 a_2_0, SV.arr IntKind.u8 16 a_2_1], SV.arr IntKind.u8 6 a_3, SV.struct [SV.int
  IntKind.i64 a_4_0, SV.arr IntKind.u8 16 a_4_1]])) = some (SV.box b_1 35 (SV.struct [SV.int IntKind.i64 a_0, SV.arr IntKind.u8 6 a_1, SV.struct [SV.int IntKind.i64
  a_2_0, SV.arr IntKind.u8 16 a_2_1], SV.arr IntKind.u8 6 a_3, SV.struct [SV.int IntKind.i64 a_4_0, SV.arr IntKind.u8 16 a_4_1]])) ∧ some (SV.box b 35 (SV.struct
  [SV.int IntKind.i64 n, SV.arr IntKind.u8 6 f, SV.struct [SV.int IntKind.i64 n_3, SV.arr IntKind.u8 16 f_4], SV.arr IntKind.u8 6 f_5, SV.struct [SV.int IntKind.i64
  n_4, SV.arr IntKind.u8 16 f_6]])) = some (SV.box b 35 (SV.struct [SV.int IntKind.i64 n, SV.arr IntKind.u8 6 f, SV.struct [SV.int IntKind.i64 n_3, SV.arr
  IntKind.u8 16 f_4], SV.arr IntKind.u8 6 f_5, SV.struct [SV.int IntKind.i64 n_4, SV.arr IntKind.u8 16 f_6]])) ∧ J w1)) → J w1) → Br (n_5 != 0) (Br (!(n ==
  0 && ((eqArr 6 f fun (x : Nat) => 0) && ((n_3 == 0 && eqArr 16 f_4 fun (x : Nat) => 0) && ((eqArr 6 f_5 fun (x : Nat) => 0) && (n_4 == 0 && eqArr 16 f_6
  fun (x : Nat) => 0)))))) (∀ (w1_3 : World), Upd [] [b] w1 w1_3 → R (SV.bool false) w1_3) (∀ (w1_3 : World), Upd [] [b] w1 w1_3 → some (SV.box b_1 35 (SV.struct
  [SV.int IntKind.i64 a_0, SV.arr IntKind.u8 6 a_1, SV.struct [SV.int IntKind.i64 a_2_0, SV.arr IntKind.u8 16 a_2_1], SV.arr IntKind.u8 6 a_3, SV.struct [SV.int
  IntKind.i64 a_4_0, SV.arr IntKind.u8 16 a_4_1]])) = some (SV.box b_1 35 (SV.struct [SV.int IntKind.i64 a_0, SV.arr IntKind.u8 6 a_1, SV.struct [SV.int IntKind.i64
  a_2_0, SV.arr IntKind.u8 16 a_2_1], SV.arr IntKind.u8 6 a_3, SV.struct [SV.int IntKind.i64 a_4_0, SV.arr IntKind.u8 16 a_4_1]])) ∧ some (SV.box b 35 (SV.struct
  [SV.int IntKind.i64 n, SV.arr IntKind.u8 6 f, SV.struct [SV.int IntKind.i64 n_3, SV.arr IntKind.u8 16 f_4], SV.arr IntKind.u8 6 f_5, SV.struct [SV.int IntKind.i64
  n_4, SV.arr IntKind.u8 16 f_6]])) = some (SV.box b 35 (SV.struct [SV.int IntKind.i64 n, SV.arr IntKind.u8 6 f, SV.struct [SV.int IntKind.i64 n_3, SV.arr
  IntKind.u8 16 f_4], SV.arr IntKind.u8 6 f_5, SV.struct [SV.int IntKind.i64 n_4, SV.arr IntKind.u8 16 f_6]])) ∧ J w1_3)) (∀ (w1_3 : World), Upd [] [b] w1
  w1_3 → some (SV.box b_1 35 (SV.struct [SV.int IntKind.i64 a_0, SV.arr IntKind.u8 6 a_1, SV.struct [SV.int IntKind.i64 a_2_0, SV.arr IntKind.u8 16 a_2_1],
  SV.arr IntKind.u8 6 a_3, SV.struct [SV.int IntKind.i64 a_4_0, SV.arr IntKind.u8 16 a_4_1]])) = some (SV.box b_1 35 (SV.struct [SV.int IntKind.i64 a_0, SV.arr
  IntKind.u8 6 a_1, SV.struct [SV.int IntKind.i64 a_2_0, SV.arr IntKind.u8 16 a_2_1], SV.arr IntKind.u8 6 a_3, SV.struct [SV.int IntKind.i64 a_4_0, SV.arr
  IntKind.u8 16 a_4_1]])) ∧ some (SV.box b 35 (SV.struct [SV.int IntKind.i64 n, SV.arr IntKind.u8 6 f, SV.struct [SV.int IntKind.i64 n_3, SV.arr IntKind.u8
  16 f_4], SV.arr IntKind.u8 6 f_5, SV.struct [SV.int IntKind.i64 n_4, SV.arr IntKind.u8 16 f_6]])) = some (SV.box b 35 (SV.struct [SV.int IntKind.i64 n,
  SV.arr IntKind.u8 6 f, SV.struct [SV.int IntKind.i64 n_3, SV.arr IntKind.u8 16 f_4], SV.arr IntKind.u8 6 f_5, SV.struct [SV.int IntKind.i64 n_4, SV.arr
  IntKind.u8 16 f_6]])) ∧ J w1_3)) → J w1) → Br (n != 0) (R (SV.bool false) w1) (Br ((↑s.2 : Int) != 28) (R (SV.bool false) w1) (some (SV.box b_1 35 (SV.struct
  [SV.int IntKind.i64 a_0, SV.arr IntKind.u8 6 a_1, SV.struct [SV.int IntKind.i64 a_2_0, SV.arr IntKind.u8 16 a_2_1], SV.arr IntKind.u8 6 a_3, SV.struct [SV.int
  IntKind.i64 a_4_0, SV.arr IntKind.u8 16 a_4_1]])) = some (SV.box b_1 35 (SV.struct [SV.int IntKind.i64 a_0, SV.arr IntKind.u8 6 a_1, SV.struct [SV.int IntKind.i64
  a_2_0, SV.arr IntKind.u8 16 a_2_1], SV.arr IntKind.u8 6 a_3, SV.struct [SV.int IntKind.i64 a_4_0, SV.arr IntKind.u8 16 a_4_1]])) ∧ J w1))
theorem f5_of (b : Sl) (a_0 : Int) (a_1 : Nat → Int) (a_2_0 : Int) (a_2_1 : Nat → Int) (a_3 : Nat → Int) (a_4_0 : Int) (a_4_1 : Nat → Int) (w : World) (R : SV → World → Prop) (hV : vc5 b a_0 a_1 a_2_0 a_2_1 a_3 a_4_0 a_4_1 w R) : Ret Try.prog 5 [.slice b, .struct [.int .i64 a_0, .arr .u8 6 a_1, .struct [.int .i64 a_2_0, .arr .u8 16 a_2_1], .arr .u8 6 a_3, .struct [.int .i64 a_4_0, .arr .u8 16 a_4_1]]] w R :=
  have e : vc5 b a_0 a_1 a_2_0 a_2_1 a_3 a_4_0 a_4_1 w R = fnVC X Try.f5 a5 [.slice b, .struct [.int .i64 a_0, .arr .u8 6 a_1, .struct [.int .i64 a_2_0, .arr .u8 16 a_2_1], .arr .u8 6 a_3, .struct [.int .i64 a_4_0, .arr .u8 16 a_4_1]]] w R := by kernel_rfl
  fnVC_sound X_ok (n := a5) (e ▸ hV) (by kernel_rfl) (by kernel_rfl) rfl rfl

end Go.Vc.S5
end

section
open Go Go.Vc Go.Proofs
set_option linter.unusedVariables false
set_option linter.unusedSimpArgs false
set_option autoImplicit false
namespace Go.Vc.S5

theorem c58 {p q : Option Addr} {w : World} {Q : World → Prop} (hq : Q w) : RetD Try.prog 58 [.ptr p, .ptr q] w Q := by
  unfold RetD
  refine callsD_of_wpS Try.func58 (c := _) rfl fun c₀ cs hu => ?_
  refine wpS_seq (wpS_region ?_)
  have et : ({ tmps := (SV.encL [SV.ptr p, SV.ptr q]).toArray ++ Array.replicate (Try.f58.ntmps - (SV.encL [SV.ptr p, SV.ptr q]).toArray.size) undef, defers := [] } : Act) = { tmps := #[.pointer p, .pointer q, undef, undef], defers := [] } := rfl
  rw [et]
  simp only [List.size_toArray, List.length_cons, List.length_nil, List.range, List.range.loop, wpOpsS]
  simp only [List.getElem?_toArray, List.getElem?_cons_zero, List.getElem?_cons_succ, Region.wanted]
  have h1 : ∀ (a : Act) (w : World), (execOp a.eval { dst := some 2, op := Op.call { callee := Callee.builtin Builtin.recover, args := #[], argTypes := #[] }, type := 20, pos := "view.go:48", after := #[], guard := none }).run Try.prog w = .ok .recover w := fun a w => rfl
  simp only [h1, recoverD, hu, if_true, ite_true]
  have e2 : ({ tmps := #[.pointer p, .pointer q, undef, undef], defers := [] } : Act).put (some 2) Value.nilIface = { tmps := #[.pointer p, .pointer q, .nilIface, undef], defers := [] } := rfl
  rw [e2]
  have h2 : (execOp ({ tmps := #[.pointer p, .pointer q, .nilIface, undef], defers := [] } : Act).eval { dst := some 3, op := Op.binOp BinOp.neq 20 (Operand.tmp 2) (Operand.const Value.nilIface) 20, type := 4, pos := "view.go:48", after := #[{ on := 0, ground := Ground.data }], guard := none }).run Try.prog w = .ok (.value (.bool false)) w := by
    kernel_rfl
  rw [h2]
  simp only [Oper.upon]
  refine wpS_cond (t := false) rfl ?_
  refine wpS_of_wp (wp_skip ?_)
  have h3 : ∀ t : Array Value, ∃ v, (results Try.f58 t).run Try.prog w = .ok v w := fun t => ⟨.tuple #[], by
    have : results Try.f58 t = pure (.tuple #[]) := by
      unfold results
      rw [show Try.f58.results = #[] from rfl]
      simp
    rw [this]; rfl⟩
  obtain ⟨v, hv⟩ := h3 _
  exact ⟨rfl, .returning, by rw [← hu], v, hv, ⟨_, rfl⟩, rfl, hq⟩
end Go.Vc.S5
end

section
open Go Go.Vc Go.Vc.S5 Go.Proofs
set_option maxRecDepth 100000
set_option linter.unusedVariables false
namespace Go.Vc.S5
def vc20 (a_0 : Int) (a_1 : Nat → Int) (a_2_0 : Int) (a_2_1 : Nat → Int) (a_3 : Nat → Int) (a_4_0 : Int) (a_4_1 : Nat → Int) (w : World) (R : SV → World
  → Prop) : Prop := ∀ (b : Nat) (w1 : World), Upd [] [b] w w1 → Ret Try.prog 42 [SV.int IntKind.i64 a_0, SV.arr IntKind.u8 6 a_1] w1 fun (r : SV) (w1_1 :
  World) => ∃ (n : Int), r = SV.int IntKind.i64 n ∧ Keeps [b] w1 w1_1 ∧ Br (n != 0) (R (SV.tuple [SV.slice { ptr := none, len := 0, cap := 0 }, SV.int IntKind.i64
  n]) w1_1) (∃ (I : Int → World → Prop), ∃ (M : Int → World → Nat), I 0 w1_1 ∧ ∀ (n : Int) (w1 : World), I n w1 → Br (decide (n < 2)) (Need (decide (0 ≤ n)
  && decide (n < (↑(1 + 1) : Int))) ((Int.toNat n = 0 → ∀ (b_1 : Nat) (w1_2 : World), Upd [] [b_1] w1 w1_2 → (World.heap w1_2)[b_1]? = some (Obj.cells { toList := SV.cells (SV.struct [SV.int IntKind.i64 a_2_0, SV.arr IntKind.u8 16 a_2_1]) }
  33) → Off b_1 [b] → ∃ (n_1 : Int), World.cell? w1_2 { block := b_1, off := 0 } = some (Value.int IntKind.i64 n_1) ∧ ∃ (f : Nat → Int), (∀ (i : Nat), i <
  16 → World.cell? w1_2 (Addr.add { block := b_1, off := 0 } (1 + i)) = some (Value.int IntKind.u8 (f i))) ∧ Upd [] [] w1_2 w1_2 ∧ ∀ (w1_3 : World), Upd []
  [] w1_2 w1_3 → Ret Try.prog 43 [SV.slice (Sl.sub { ptr := some (Addr.add { block := b_1, off := 0 } 1), len := 16, cap := 16 } 1 0 4 16)] w1_3 fun (r :
  SV) (w1_4 : World) => ∃ (n_2 : Int), ∃ (f_1 : Nat → Int), r = SV.struct [SV.int IntKind.i64 n_2, SV.arr IntKind.u8 16 f_1] ∧ Keeps [b] w1_3 w1_4 ∧ Upd []
  [] w1_2 w1_4 ∧ Br (!(n_1 == n_2 && eqArr 16 f f_1)) (R (SV.tuple [SV.slice { ptr := none, len := 0, cap := 0 }, SV.int IntKind.i64 20]) w1_4) (some (SV.box
  b 35 (SV.struct [SV.int IntKind.i64 a_0, SV.arr IntKind.u8 6 a_1, SV.struct [SV.int IntKind.i64 a_2_0, SV.arr IntKind.u8 16 a_2_1], SV.arr IntKind.u8 6
  a_3, SV.struct [SV.int IntKind.i64 a_4_0, SV.arr IntKind.u8 16 a_4_1]])) = some (SV.box b 35 (SV.struct [SV.int IntKind.i64 a_0, SV.arr IntKind.u8 6 a_1,
  SV.struct [SV.int IntKind.i64 a_2_0, SV.arr IntKind.u8 16 a_2_1], SV.arr IntKind.u8 6 a_3, SV.struct [SV.int IntKind.i64 a_4_0, SV.arr IntKind.u8 16 a_4_1]]))
  ∧ I (wr IntKind.i64 (n + 1)) w1_4 ∧ M (wr IntKind.i64 (n + 1)) w1_4 < M n w1)) ∧ (Int.toNat n = 1 → ∀ (b_1 : Nat) (w1_2 : World), Upd [] [b_1] w1 w1_2 →
  (World.heap w1_2)[b_1]? = some (Obj.cells { toList := SV.cells (SV.struct [SV.int IntKind.i64 a_4_0, SV.arr IntKind.u8 16 a_4_1]) } 33) → Off b_1 [b] →
  ∃ (n_1 : Int), World.cell? w1_2 { block := b_1, off := 0 } = some (Value.int IntKind.i64 n_1) ∧ ∃ (f : Nat → Int), (∀ (i : Nat), i < 16 → World.cell? w1_2
  (Addr.add { block := b_1, off := 0 } (1 + i)) = some (Value.int IntKind.u8 (f i))) ∧ Upd [] [] w1_2 w1_2 ∧ ∀ (w1_3 : World), Upd [] [] w1_2 w1_3 → Ret Try.prog
  43 [SV.slice (Sl.sub { ptr := some (Addr.add { block := b_1, off := 0 } 1), len := 16, cap := 16 } 1 0 4 16)] w1_3 fun (r : SV) (w1_4 : World) => ∃ (n_2
  : Int), ∃ (f_1 : Nat → Int), r = SV.struct [SV.int IntKind.i64 n_2, SV.arr IntKind.u8 16 f_1] ∧ Keeps [b] w1_3 w1_4 ∧ Upd [] [] w1_2 w1_4 ∧ Br (!(n_1 ==
  n_2 && eqArr 16 f f_1)) (R (SV.tuple [SV.slice { ptr := none, len := 0, cap := 0 }, SV.int IntKind.i64 20]) w1_4) (some (SV.box b 35 (SV.struct [SV.int
  IntKind.i64 a_0, SV.arr IntKind.u8 6 a_1, SV.struct [SV.int IntKind.i64 a_2_0, SV.arr IntKind.u8 16 a_2_1], SV.arr IntKind.u8 6 a_3, SV.struct [SV.int IntKind.i64
  a_4_0, SV.arr IntKind.u8 16 a_4_1]])) = some (SV.box b 35 (SV.struct [SV.int IntKind.i64 a_0, SV.arr IntKind.u8 6 a_1, SV.struct [SV.int IntKind.i64 a_2_0,
  SV.arr IntKind.u8 16 a_2_1], SV.arr IntKind.u8 6 a_3, SV.struct [SV.int IntKind.i64 a_4_0, SV.arr IntKind.u8 16 a_4_1]])) ∧ I (wr IntKind.i64 (n + 1)) w1_4
  ∧ M (wr IntKind.i64 (n + 1)) w1_4 < M n w1)) ∧ True)) (∀ (b_1 : Nat) (w1_2 : World), Upd [] [b_1] w1 w1_2 → (World.heap w1_2)[b_1]? = some (Obj.cells { toList := SV.cells (SV.struct [SV.int IntKind.u8 0, SV.int IntKind.u8 1, SV.int IntKind.u8 8, SV.int IntKind.u8 0, SV.int IntKind.u8 6, SV.int IntKind.u8 4]) }
  5) → MarkStr w1_2 { ptr := some { block := b_1, off := 0 }, len := 6, cap := 6 } [b] fun (w : World) => Ret Try.prog 44 [SV.slice { ptr := some { block := b_1, off := 0 }, len := 6, cap := 6 },
  SV.int IntKind.i64 a_0] w fun (r : SV) (w1 : World) => ∃ (s : Sl), r = SV.slice s ∧ Keeps [b] w w1 ∧ ((World.heap w1)[b]? = some (Obj.cells { toList := SV.cells (SV.struct [SV.int IntKind.i64 a_0, SV.arr IntKind.u8 6 a_1, SV.struct [SV.int IntKind.i64 a_2_0, SV.arr IntKind.u8 16 a_2_1], SV.arr IntKind.u8 6 a_3, SV.struct [SV.int IntKind.i64 a_4_0, SV.arr IntKind.u8 16 a_4_1]]) }
  35) → ((∀ (w1_3 : World), Upd [] [] w1 w1_3 → Vc.Append 5 1 1 s (Sl.sub { ptr := some (Addr.add { block := b, off := 0 } 1), len := 6, cap := 6 } 1 0 6
  6) [] w1_3 fun (r : Sl) (w : World) => Vc.Append 5 1 1 r (Sl.sub { ptr := some (Addr.add (Addr.add { block := b, off := 0 } 7) 1), len := 16, cap := 16 }
  1 0 4 16) [] w fun (r : Sl) (w : World) => ((∀ (w1 : World), Upd [] [] w w1 → Vc.Append 5 1 1 r (Sl.sub { ptr := some (Addr.add { block := b, off := 0 } 24), len := 6, cap := 6 }
  1 0 6 6) [] w1 fun (r : Sl) (w : World) => Vc.Append 5 1 1 r (Sl.sub { ptr := some (Addr.add (Addr.add { block := b, off := 0 } 30) 1), len := 16, cap := 16 }
  1 0 4 16) [] w fun (r : Sl) (w : World) => R (SV.tuple [SV.slice r, SV.int IntKind.i64 0]) w) ∧ ∀ (w1 : World), Upd [] [] w w1 → Vc.Append 5 1 1 r (Sl.sub
  { ptr := some (Addr.add { block := b, off := 0 } 24), len := 6, cap := 6 } 1 0 6 6) [] w1 fun (r : Sl) (w : World) => Vc.Append 5 1 1 r (Sl.sub { ptr := some (Addr.add (Addr.add { block := b, off := 0 } 30) 1), len := 16, cap := 16 }
  1 0 4 16) [] w fun (r : Sl) (w : World) => R (SV.tuple [SV.slice r, SV.int IntKind.i64 0]) w) ∧ ∀ (w1 : World), Upd [] [] w w1 → Vc.Append 5 1 1 r (Sl.sub
  { ptr := some (Addr.add { block := b, off := 0 } 24), len := 6, cap := 6 } 1 0 6 6) [] w1 fun (r : Sl) (w : World) => Vc.Append 5 1 1 r (Sl.sub { ptr := some (Addr.add (Addr.add { block := b, off := 0 } 30) 1), len := 16, cap := 16 }
  1 0 4 16) [] w fun (r : Sl) (w : World) => R (SV.tuple [SV.slice r, SV.int IntKind.i64 0]) w) ∧ ∀ (w1_3 : World), Upd [] [] w1 w1_3 → Vc.Append 5 1 1 s
  (Sl.sub { ptr := some (Addr.add { block := b, off := 0 } 1), len := 6, cap := 6 } 1 0 6 6) [] w1_3 fun (r : Sl) (w : World) => Vc.Append 5 1 1 r (Sl.sub
  { ptr := some (Addr.add (Addr.add { block := b, off := 0 } 7) 1), len := 16, cap := 16 } 1 0 4 16) [] w fun (r : Sl) (w : World) => ((∀ (w1 : World), Upd
  [] [] w w1 → Vc.Append 5 1 1 r (Sl.sub { ptr := some (Addr.add { block := b, off := 0 } 24), len := 6, cap := 6 } 1 0 6 6) [] w1 fun (r : Sl) (w : World)
  => Vc.Append 5 1 1 r (Sl.sub { ptr := some (Addr.add (Addr.add { block := b, off := 0 } 30) 1), len := 16, cap := 16 } 1 0 4 16) [] w fun (r : Sl) (w :
  World) => R (SV.tuple [SV.slice r, SV.int IntKind.i64 0]) w) ∧ ∀ (w1 : World), Upd [] [] w w1 → Vc.Append 5 1 1 r (Sl.sub { ptr := some (Addr.add { block := b, off := 0 } 24), len := 6, cap := 6 }
  1 0 6 6) [] w1 fun (r : Sl) (w : World) => Vc.Append 5 1 1 r (Sl.sub { ptr := some (Addr.add (Addr.add { block := b, off := 0 } 30) 1), len := 16, cap := 16 }
  1 0 4 16) [] w fun (r : Sl) (w : World) => R (SV.tuple [SV.slice r, SV.int IntKind.i64 0]) w) ∧ ∀ (w1 : World), Upd [] [] w w1 → Vc.Append 5 1 1 r (Sl.sub
  { ptr := some (Addr.add { block := b, off := 0 } 24), len := 6, cap := 6 } 1 0 6 6) [] w1 fun (r : Sl) (w : World) => Vc.Append 5 1 1 r (Sl.sub { ptr := some (Addr.add (Addr.add { block := b, off := 0 } 30) 1), len := 16, cap := 16 }
  1 0 4 16) [] w fun (r : Sl) (w : World) => R (SV.tuple [SV.slice r, SV.int IntKind.i64 0]) w) ∧ ∀ (w1_3 : World), Upd [] [] w1 w1_3 → Vc.Append 5 1 1 s
  (Sl.sub { ptr := some (Addr.add { block := b, off := 0 } 1), len := 6, cap := 6 } 1 0 6 6) [] w1_3 fun (r : Sl) (w : World) => Vc.Append 5 1 1 r (Sl.sub
  { ptr := some (Addr.add (Addr.add { block := b, off := 0 } 7) 1), len := 16, cap := 16 } 1 0 4 16) [] w fun (r : Sl) (w : World) => ((∀ (w1 : World), Upd
  [] [] w w1 → Vc.Append 5 1 1 r (Sl.sub { ptr := some (Addr.add { block := b, off := 0 } 24), len := 6, cap := 6 } 1 0 6 6) [] w1 fun (r : Sl) (w : World)
  => Vc.Append 5 1 1 r (Sl.sub { ptr := some (Addr.add (Addr.add { block := b, off := 0 } 30) 1), len := 16, cap := 16 } 1 0 4 16) [] w fun (r : Sl) (w :
  World) => R (SV.tuple [SV.slice r, SV.int IntKind.i64 0]) w) ∧ ∀ (w1 : World), Upd [] [] w w1 → Vc.Append 5 1 1 r (Sl.sub { ptr := some (Addr.add { block := b, off := 0 } 24), len := 6, cap := 6 }
  1 0 6 6) [] w1 fun (r : Sl) (w : World) => Vc.Append 5 1 1 r (Sl.sub { ptr := some (Addr.add (Addr.add { block := b, off := 0 } 30) 1), len := 16, cap := 16 }
  1 0 4 16) [] w fun (r : Sl) (w : World) => R (SV.tuple [SV.slice r, SV.int IntKind.i64 0]) w) ∧ ∀ (w1 : World), Upd [] [] w w1 → Vc.Append 5 1 1 r (Sl.sub
  { ptr := some (Addr.add { block := b, off := 0 } 24), len := 6, cap := 6 } 1 0 6 6) [] w1 fun (r : Sl) (w : World) => Vc.Append 5 1 1 r (Sl.sub { ptr := some (Addr.add (Addr.add { block := b, off := 0 } 30) 1), len := 16, cap := 16 }
  1 0 4 16) [] w fun (r : Sl) (w : World) => R (SV.tuple [SV.slice r, SV.int IntKind.i64 0]) w)))
theorem f20_of (a_0 : Int) (a_1 : Nat → Int) (a_2_0 : Int) (a_2_1 : Nat → Int) (a_3 : Nat → Int) (a_4_0 : Int) (a_4_1 : Nat → Int) (w : World) (R : SV → World → Prop) (hV : vc20 a_0 a_1 a_2_0 a_2_1 a_3 a_4_0 a_4_1 w R) : Ret Try.prog 20 [.struct [.int .i64 a_0, .arr .u8 6 a_1, .struct [.int .i64 a_2_0, .arr .u8 16 a_2_1], .arr .u8 6 a_3, .struct [.int .i64 a_4_0, .arr .u8 16 a_4_1]]] w R :=
  have e : vc20 a_0 a_1 a_2_0 a_2_1 a_3 a_4_0 a_4_1 w R = fnVC X Try.f20 a20 [.struct [.int .i64 a_0, .arr .u8 6 a_1, .struct [.int .i64 a_2_0, .arr .u8 16 a_2_1], .arr .u8 6 a_3, .struct [.int .i64 a_4_0, .arr .u8 16 a_4_1]]] w R := by kernel_rfl
  fnVC_sound X_ok (n := a20) (e ▸ hV) (by kernel_rfl) (by kernel_rfl) rfl rfl

end Go.Vc.S5
end
