/-
  What functions of the program come to, read by program.
-/
import Derived.Test.YtmgpbjennnadhaaDoorEngX
import Derived.Test.YtmgpbjennnadhaaDoorStrF
namespace Go.Proofs.YtmgpbjennnadhaaDoor
open Go.Proofs.YtmgpbjennnadhaaDoor.Eng
set_option linter.unusedVariables false
set_option maxRecDepth 20000
def cfg : Cf := ⟨[54], [(54, 1)], [(20, 2), (19, 2), (32, 2), (10, 2), (5, 2), (3, 3)], [(6, [])], [], [], [(0, 9, [⟨#[]⟩, ⟨#[115, 117, 98, 109, 105, 116]⟩, ⟨#[99, 97, 110, 99, 101, 108]⟩, ⟨#[112, 111, 108, 108]⟩, ⟨#[118, 105, 101, 119]⟩])]⟩
def B_cell_Kind_1 : T := (.ite (.var 5) (.ret [(.str (.mk #[108, 105, 118, 101]))]) (.ite (.cmp .eql (.var 0) (.int 5)) (.ret [(.str (.mk #[102, 105, 108, 108, 101, 100]))]) (.ite (.cmp .eql (.var 0) (.int 6)) (.ret [(.str (.mk #[99, 97, 110, 99, 101, 108, 108, 101, 100]))]) (.ite (.cmp .eql (.var 0) (.int 7)) (.ret [(.str (.mk #[101, 120, 112, 105, 114, 101, 100]))]) (.ite (.cmp .eql (.var 0) (.int 8)) (.ret [(.str (.mk #[114, 101, 116, 105, 114, 101, 100]))]) (.ret [(.str (.mk #[63]))]))))))
def T_cell_Kind : T := 
  let e0 : E := (.cmp .eql (.var 0) (.int 1))
  let e1 : E := (.cmp .eql (.var 0) (.int 2))
  let e2 : E := (.cmp .eql (.var 0) (.int 3))
  (.ite (.cmp .eql (.var 0) (.int 0)) (.ret [(.str (.mk #[102, 114, 101, 101]))]) (.jp B_cell_Kind_1 (.ite e0 (.again 0 [e0]) (.ite e1 (.again 0 [e1]) (.ite e2 (.again 0 [e2]) (.again 0 [(.cmp .eql (.var 0) (.int 4))]))))))
def T_answer_word : T := (.ite (.cmp .eql (.var 0) (.int 1)) (.call 25 [(.var 0), (.bool false), (.int 0), (.int 0), (.int 0)] 1 (.ret [(.var 1)])) (.ite (.cmp .eql (.var 0) (.int 0)) (.call 25 [(.var 0), (.bool false), (.int 0), (.int 0), (.int 0)] 1 (.ret [(.var 1)])) (.ite (.cmp .eql (.var 0) (.int 5)) (.call 25 [(.var 0), (.bool false), (.int 0), (.int 0), (.int 0)] 1 (.ret [(.var 1)])) (.ite (.cmp .eql (.var 0) (.int 6)) (.call 25 [(.var 0), (.bool false), (.int 0), (.int 0), (.int 0)] 1 (.ret [(.var 1)])) (.ite (.cmp .eql (.var 0) (.int 7)) (.call 25 [(.var 0), (.bool false), (.int 0), (.int 0), (.int 0)] 1 (.ret [(.var 1)])) (.ite (.cmp .eql (.var 0) (.int 8)) (.call 25 [(.var 0), (.bool false), (.int 0), (.int 0), (.int 0)] 1 (.ret [(.var 1)])) (.ret [(.str (.mk #[]))])))))))
def T_answer_small : T := (.ite (.cmp .geq (.var 0) (.int 0)) (.ret [(.cmp .leq (.var 0) (.int 9999999))]) (.ret [(.bool false)]))
def T_answer_told : T := (.ite (.cmp .geq (.var 0) (.int 1)) (.ite (.cmp .leq (.var 0) (.int 5)) (.call 23 [(.var 1)] 1 (.ite (.var 6) (.call 23 [(.var 2)] 1 (.ite (.var 7) (.call 23 [(.var 3)] 1 (.ite (.var 8) (.ite (.cmp .eql (.var 4) (.int 0)) (.ret [(.cmp .eql (.var 5) (.int 0))]) (.ret [(.bool false)])) (.ret [(.bool false)]))) (.ret [(.bool false)]))) (.ret [(.bool false)]))) (.ret [(.bool false)])) (.ret [(.bool false)]))
def B_answer_Right_4 : T := 
  let e0 : E := (.cmp .eql (.var 3) (.int 0))
  (.ite (.cmp .eql (.var 0) (.int 1)) (.ret [(.bool true)]) (.ite (.cmp .eql (.var 0) (.int 2)) (.ret [(.bool true)]) (.ite (.cmp .eql (.var 0) (.int 3)) (.ret [e0]) (.ite (.cmp .eql (.var 0) (.int 4)) (.ite e0 (.ret [(.cmp .eql (.var 4) (.int 0))]) (.ret [(.bool false)])) (.ret [(.bool false)])))))
def B_answer_Right_5 : T := 
  let e0 : E := (.get (.var 12) (.var 13))
  let e1 : E := (.cmp .lss (.var 13) (.len (.var 12)))
  (.ite e1 (.need (.cmp .geq (.var 13) (.int 0)) (.need e1 (.call 16 [(.cell e0 0)] 1 (.ite (.scmp .eql (.var 14) (.str (.mk #[]))) (.ret [(.bool false)]) (.call 23 [(.cell e0 1)] 1 (.ite (.not (.var 15)) (.ret [(.bool false)]) (.call 23 [(.cell e0 2)] 1 (.ite (.not (.var 16)) (.ret [(.bool false)]) (.again 1 [(.ar .add .i64 (.var 13) (.int 1))]))))))))) (.again 0 []))
def B_answer_Right_3 : T := (.jp B_answer_Right_4 (.loop [(.int 0)] B_answer_Right_5))
def B_answer_Right_2 : T := (.jp B_answer_Right_3 (.ite (.not (.and (.cmp .eql (.var 6) (.int 0)) (.and (.cmp .eql (.var 7) (.int 0)) (.and (.cmp .eql (.var 8) (.int 0)) (.and (.cmp .eql (.var 9) (.int 0)) (.and (.cmp .eql (.var 10) (.int 0)) (.cmp .eql (.var 11) (.int 0)))))))) (.ite (.cmp .neq (.var 0) (.int 3)) (.ret [(.bool false)]) (.ite (.cmp .neq (.var 1) (.int 0)) (.ret [(.bool false)]) (.call 22 [(.var 6), (.var 7), (.var 8), (.var 9), (.var 10), (.var 11)] 1 (.ite (.not (.var 13)) (.ret [(.bool false)]) (.again 0 []))))) (.again 0 [])))
def B_answer_Right_1 : T := 
  let e0 : E := (.cmp .neq (.var 1) (.int 0))
  let e1 : E := (.cmp .neq (.var 0) (.int 4))
  let e2 : E := (.cmp .gtr (.len (.var 12)) (.int 0))
  (.jp B_answer_Right_2 (.ite (.var 5) (.ite (.cmp .neq (.var 0) (.int 2)) (.ret [(.bool false)]) (.ite e0 (.ret [(.bool false)]) (.ite e2 (.ite e1 (.ret [(.bool false)]) (.again 0 [])) (.again 0 [])))) (.ite e2 (.ite e1 (.ret [(.bool false)]) (.ite e0 (.ret [(.bool false)]) (.again 0 []))) (.again 0 []))))
def T_answer_Right : T := (.jp B_answer_Right_1 (.ite (.cmp .lss (.var 2) (.int 0)) (.ret [(.bool false)]) (.ite (.cmp .gtr (.var 2) (.int 1000000)) (.ret [(.bool false)]) (.ite (.cmp .lss (.var 3) (.int 0)) (.ret [(.bool false)]) (.ite (.cmp .gtr (.var 3) (.int 9999999)) (.ret [(.bool false)]) (.ite (.cmp .lss (.var 4) (.int 0)) (.ret [(.bool false)]) (.ite (.cmp .gtr (.var 4) (.int 9999999)) (.ret [(.bool false)]) (.ite (.cmp .lss (.var 1) (.int 0)) (.ret [(.bool false)]) (.again 0 [])))))))))
def T_line_Verb : T := 
  let e0 : E := (.lcons (.str (.mk #[])) (.lcons (.str (.mk #[115, 117, 98, 109, 105, 116])) (.lcons (.str (.mk #[99, 97, 110, 99, 101, 108])) (.lcons (.str (.mk #[112, 111, 108, 108])) (.lcons (.str (.mk #[118, 105, 101, 119])) .lnil)))))
  (.ite (.cmp .lss (.var 0) (.int 1)) (.ret [(.str (.mk #[63]))]) (.ite (.cmp .geq (.var 0) (.int 5)) (.ret [(.str (.mk #[63]))]) (.need (.cmp .geq (.var 0) (.int 0)) (.need (.cmp .lss (.var 0) (.len e0)) (.need (.cmp .lss (.var 0) (.int 5)) (.ret [(.get e0 (.var 0))]))))))
def T_record_Name : T := (.ite (.cmp .eql (.var 0) (.int 1)) (.ret [(.str (.mk #[102, 105, 108, 108]))]) (.ite (.cmp .eql (.var 0) (.int 2)) (.call 25 [(.int 5), (.bool false), (.int 0), (.int 0), (.int 0)] 1 (.ret [(.var 1)])) (.ite (.cmp .eql (.var 0) (.int 3)) (.call 25 [(.int 6), (.bool false), (.int 0), (.int 0), (.int 0)] 1 (.ret [(.var 1)])) (.ite (.cmp .eql (.var 0) (.int 4)) (.call 25 [(.int 7), (.bool false), (.int 0), (.int 0), (.int 0)] 1 (.ret [(.var 1)])) (.ite (.cmp .eql (.var 0) (.int 5)) (.call 25 [(.int 8), (.bool false), (.int 0), (.int 0), (.int 0)] 1 (.ret [(.var 1)])) (.ret [(.str (.mk #[110, 111, 110, 101]))]))))))
def B_answer_Print_3 : T := 
  let e0 : E := (.app (.var 19) (.lcons (.var 20) .lnil))
  let e1 : E := (.lcons (.var 7) (.lcons (.var 8) (.lcons (.var 9) .lnil)))
  let e2 : E := (.cmp .lss (.var 18) (.len e1))
  (.ite e2 (.need (.cmp .geq (.var 18) (.int 0)) (.need e2 (.call 12 [(.get e1 (.var 18))] 1 (.need (.cmp .leq (.len e0) (.int 8796093022208)) (.again 0 [(.ar .add .i64 (.var 18) (.int 1)), e0]))))) (.call 17 [(.var 19), (.str (.mk #[32]))] 1 (.ret [(.var 20), .nil])))
def B_answer_Print_5 : T := 
  let e0 : E := (.get (.var 12) (.var 17))
  let e1 : E := (.app (.var 21) (.lcons (.var 22) .lnil))
  let e2 : E := (.lcons (.cell e0 1) (.lcons (.cell e0 2) .lnil))
  let e3 : E := (.cmp .lss (.var 20) (.len e2))
  (.ite e3 (.need (.cmp .geq (.var 20) (.int 0)) (.need e3 (.call 12 [(.get e2 (.var 20))] 1 (.need (.cmp .leq (.len e1) (.int 8796093022208)) (.again 1 [(.ar .add .i64 (.var 20) (.int 1)), e1]))))) (.again 0 [(.ar .add .i64 (.var 17) (.int 1)), (.var 21)]))
def B_answer_Print_4 : T := 
  let e0 : E := (.cmp .lss (.var 17) (.len (.var 12)))
  let e1 : E := (.app (.var 18) (.lcons (.var 19) .lnil))
  (.ite e0 (.need (.cmp .geq (.var 17) (.int 0)) (.need e0 (.call 16 [(.cell (.get (.var 12) (.var 17)) 0)] 1 (.need (.cmp .leq (.len e1) (.int 8796093022208)) (.loop [(.int 0), e1] B_answer_Print_5))))) (.call 17 [(.var 18), (.str (.mk #[32]))] 1 (.ret [(.var 19), .nil])))
def B_answer_Print_2 : T := 
  let e0 : E := (.lcons (.var 17) .lnil)
  let e1 : E := (.app (.var 16) (.lcons (.str (.mk #[97, 115, 107, 101, 100])) .lnil))
  let e2 : E := (.app (.var 16) e0)
  let e3 : E := (.app (.var 16) (.lcons (.str (.mk #[111, 107])) .lnil))
  let e4 : E := (.app (.var 16) (.lcons (.str (.mk #[101, 114, 114, 111, 114])) e0))
  let e5 : E := (.cmp .leq (.len e2) (.int 8796093022208))
  (.ite (.cmp .neq (.var 1) (.int 0)) (.call 12 [(.var 1)] 1 (.need (.cmp .leq (.len e4) (.int 8796093022208)) (.call 17 [e4, (.str (.mk #[32]))] 1 (.ret [(.var 18), .nil])))) (.ite (.var 5) (.need (.cmp .leq (.len e1) (.int 8796093022208)) (.call 17 [e1, (.str (.mk #[32]))] 1 (.ret [(.var 17), .nil]))) (.ite (.cmp .eql (.var 0) (.int 3)) (.ite (.cmp .eql (.var 6) (.int 0)) (.call 15 [(.int 0)] 1 (.need e5 (.call 17 [e2, (.str (.mk #[32]))] 1 (.ret [(.var 18), .nil])))) (.call 15 [(.var 6)] 1 (.need e5 (.loop [(.int 0), e2] B_answer_Print_3)))) (.ite (.cmp .eql (.var 0) (.int 4)) (.loop [(.int 0), (.var 16)] B_answer_Print_4) (.need (.cmp .leq (.len e3) (.int 8796093022208)) (.call 17 [e3, (.str (.mk #[32]))] 1 (.ret [(.var 17), .nil])))))))
def B_answer_Print_7 : T := 
  let e0 : E := (.lcons (.var 4) .lnil)
  let e1 : E := (.app (.var 19) (.lcons (.var 20) .lnil))
  let e2 : E := (.cmp .lss (.var 18) (.len e0))
  (.ite e2 (.need (.cmp .geq (.var 18) (.int 0)) (.need e2 (.call 12 [(.get e0 (.var 18))] 1 (.need (.cmp .leq (.len e1) (.int 8796093022208)) (.again 2 [(.ar .add .i64 (.var 18) (.int 1)), e1]))))) (.again 0 [(.var 19)]))
def B_answer_Print_6 : T := 
  let e0 : E := (.lcons (.var 3) .lnil)
  let e1 : E := (.app (.var 17) (.lcons (.var 18) .lnil))
  let e2 : E := (.cmp .lss (.var 16) (.len e0))
  (.ite e2 (.need (.cmp .geq (.var 16) (.int 0)) (.need e2 (.call 12 [(.get e0 (.var 16))] 1 (.need (.cmp .leq (.len e1) (.int 8796093022208)) (.again 1 [(.ar .add .i64 (.var 16) (.int 1)), e1]))))) (.loop [(.int 0), (.var 17)] B_answer_Print_7))
def B_answer_Print_9 : T := 
  let e0 : E := (.lcons (.var 4) .lnil)
  let e1 : E := (.app (.var 19) (.lcons (.var 20) .lnil))
  let e2 : E := (.cmp .lss (.var 18) (.len e0))
  (.ite e2 (.need (.cmp .geq (.var 18) (.int 0)) (.need e2 (.call 12 [(.get e0 (.var 18))] 1 (.need (.cmp .leq (.len e1) (.int 8796093022208)) (.again 2 [(.ar .add .i64 (.var 18) (.int 1)), e1]))))) (.again 0 [(.var 19)]))
def B_answer_Print_8 : T := 
  let e0 : E := (.lcons (.var 3) .lnil)
  let e1 : E := (.app (.var 17) (.lcons (.var 18) .lnil))
  let e2 : E := (.cmp .lss (.var 16) (.len e0))
  (.ite e2 (.need (.cmp .geq (.var 16) (.int 0)) (.need e2 (.call 12 [(.get e0 (.var 16))] 1 (.need (.cmp .leq (.len e1) (.int 8796093022208)) (.again 1 [(.ar .add .i64 (.var 16) (.int 1)), e1]))))) (.loop [(.int 0), (.var 17)] B_answer_Print_9))
def B_answer_Print_10 : T := 
  let e0 : E := (.lcons (.var 4) .lnil)
  let e1 : E := (.app (.var 17) (.lcons (.var 18) .lnil))
  let e2 : E := (.cmp .lss (.var 16) (.len e0))
  (.ite e2 (.need (.cmp .geq (.var 16) (.int 0)) (.need e2 (.call 12 [(.get e0 (.var 16))] 1 (.need (.cmp .leq (.len e1) (.int 8796093022208)) (.again 1 [(.ar .add .i64 (.var 16) (.int 1)), e1]))))) (.again 0 [(.var 17)]))
def B_answer_Print_1 : T := 
  let e0 : E := (.lcons (.var 14) (.lcons (.var 15) .lnil))
  (.jp B_answer_Print_2 (.ite (.cmp .eql (.var 0) (.int 1)) (.loop [(.int 0), e0] B_answer_Print_6) (.ite (.cmp .eql (.var 0) (.int 2)) (.loop [(.int 0), e0] B_answer_Print_8) (.ite (.cmp .eql (.var 0) (.int 3)) (.loop [(.int 0), e0] B_answer_Print_10) (.again 0 [e0])))))
def T_answer_Print : T := (.call 11 [(.var 0), (.var 1), (.var 2), (.var 3), (.var 4), (.var 5), (.var 6), (.var 7), (.var 8), (.var 9), (.var 10), (.var 11), (.var 12)] 1 (.ite (.not (.var 13)) (.ret [(.str (.mk #[])), (.mkif 29 (.int 6))]) (.jp B_answer_Print_1 (.call 12 [(.var 2)] 1 (.call 13 [(.var 0)] 1 (.again 0 [(.var 14), (.var 15)]))))))
def T_p_answer_reader_next : T := 
  let e0 : E := (.not (.isnil (.var 0)))
  let e1 : E := (.get (.var 1) (.var 0))
  let e2 : E := (.cell e1 0)
  let e3 : E := (.len e2)
  (.need e0 (.ite (.cmp .eql e3 (.int 0)) (.need e0 (.ret [(.str (.mk #[])), (.set (.var 1) (.var 0) (.setc 2 e1 1 (.bool true)))])) (.need e0 (.need (.cmp .lss (.int 0) e3) (.need e0 (.need (.cmp .leq (.int 0) (.int 1)) (.need (.cmp .leq (.int 1) e3) (.need (.cmp .leq e3 e3) (.need e0 (.ret [(.get e2 (.int 0)), (.set (.var 1) (.var 0) (.setc 2 e1 0 (.sub e2 (.int 1) e3)))]))))))))))
def B_line_Digits_1 : T := 
  let e0 : E := (.cmp .geq (.var 1) (.int 0))
  let e1 : E := (.sidx (.var 0) (.var 1))
  let e2 : E := (.cmp .lss (.var 1) (.slen (.var 0)))
  (.ite e2 (.need e0 (.need e2 (.ite (.cmp .lss e1 (.int 48)) (.ret [(.bool false)]) (.need e0 (.need e2 (.ite (.cmp .gtr e1 (.int 57)) (.ret [(.bool false)]) (.again 0 [(.ar .add .i64 (.var 1) (.int 1))]))))))) (.ret [(.bool true)]))
def B_line_Digits_2 : T := 
  let e0 : E := (.cmp .geq (.var 1) (.int 0))
  let e1 : E := (.sidx (.var 0) (.var 1))
  let e2 : E := (.cmp .lss (.var 1) (.slen (.var 0)))
  (.ite e2 (.need e0 (.need e2 (.ite (.cmp .lss e1 (.int 48)) (.ret [(.bool false)]) (.need e0 (.need e2 (.ite (.cmp .gtr e1 (.int 57)) (.ret [(.bool false)]) (.again 0 [(.ar .add .i64 (.var 1) (.int 1))]))))))) (.ret [(.bool true)]))
def T_line_Digits : T := (.ite (.scmp .eql (.var 0) (.str (.mk #[]))) (.ret [(.bool false)]) (.ite (.cmp .gtr (.slen (.var 0)) (.int 7)) (.ret [(.bool false)]) (.need (.cmp .lss (.int 0) (.slen (.var 0))) (.ite (.cmp .eql (.sidx (.var 0) (.int 0)) (.int 48)) (.ite (.scmp .neq (.var 0) (.str (.mk #[48]))) (.ret [(.bool false)]) (.loop [(.int 0)] B_line_Digits_1)) (.loop [(.int 0)] B_line_Digits_2)))))
def T_p_answer_reader_num : T := 
  let e0 : E := (.not (.isnil (.var 0)))
  let e1 : E := (.get (.var 3) (.var 0))
  let e2 : E := (.set (.var 3) (.var 0) (.setc 2 e1 1 (.bool true)))
  (.call 20 [(.var 0), (.var 1)] 2 (.call 30 [(.var 2)] 2 (.need e0 (.ite (.cell e1 1) (.need e0 (.ret [(.var 4), e2])) (.ite (.not (.isnil (.var 5))) (.need e0 (.ret [(.var 4), e2])) (.call 31 [(.var 2)] 1 (.need e0 (.ret [(.var 4), (.set (.var 3) (.var 0) (.setc 2 e1 1 (.not (.var 6))))]))))))))
def B_p_answer_reader_look_1 : T := 
  let e0 : E := (.lcons (.int 0) (.lcons (.int 1) (.lcons (.int 5) (.lcons (.int 6) (.lcons (.int 7) (.lcons (.int 8) .lnil))))))
  let e1 : E := (.get e0 (.var 4))
  let e2 : E := (.cmp .lss (.var 4) (.len e0))
  (.ite e2 (.need (.cmp .geq (.var 4) (.int 0)) (.need e2 (.call 16 [e1] 1 (.ite (.scmp .eql (.var 6) (.var 2)) (.call 19 [(.var 0), (.var 5)] 2 (.call 19 [(.var 0), (.var 8)] 2 (.ret [e1, (.var 7), (.var 9), (.var 10)]))) (.again 0 [(.ar .add .i64 (.var 4) (.int 1)), (.var 5)]))))) (.need (.not (.isnil (.var 0))) (.ret [(.int 0), (.int 0), (.int 0), (.set (.var 5) (.var 0) (.setc 2 (.get (.var 5) (.var 0)) 1 (.bool true)))])))
def T_p_answer_reader_look : T := (.call 20 [(.var 0), (.var 1)] 2 (.loop [(.int 0), (.var 3)] B_p_answer_reader_look_1))
def B_answer_Parse_3 : T := 
  let e0 : E := (.get (.var 48) (.len (.var 1)))
  (.ite (.cmp .eql (.var 35) (.int 0)) (.ret [(.int 0), (.int 0), (.int 0), (.int 0), (.int 0), (.bool false), (.int 0), (.int 0), (.int 0), (.int 0), (.int 0), (.int 0), .lnil, (.mkif 29 (.int 6)), (.var 48)]) (.ite (.cell e0 1) (.ret [(.int 0), (.int 0), (.int 0), (.int 0), (.int 0), (.bool false), (.int 0), (.int 0), (.int 0), (.int 0), (.int 0), (.int 0), .lnil, (.mkif 29 (.int 6)), (.var 48)]) (.ite (.cmp .gtr (.len (.cell e0 0)) (.int 0)) (.ret [(.int 0), (.int 0), (.int 0), (.int 0), (.int 0), (.bool false), (.int 0), (.int 0), (.int 0), (.int 0), (.int 0), (.int 0), .lnil, (.mkif 29 (.int 6)), (.var 48)]) (.call 11 [(.var 35), (.var 36), (.var 37), (.var 38), (.var 39), (.var 40), (.var 41), (.var 42), (.var 43), (.var 44), (.var 45), (.var 46), (.var 47)] 1 (.ite (.not (.var 49)) (.ret [(.int 0), (.int 0), (.int 0), (.int 0), (.int 0), (.bool false), (.int 0), (.int 0), (.int 0), (.int 0), (.int 0), (.int 0), .lnil, (.mkif 29 (.int 6)), (.var 48)]) (.ret [(.var 35), (.var 36), (.var 37), (.var 38), (.var 39), (.var 40), (.var 41), (.var 42), (.var 43), (.var 44), (.var 45), (.var 46), (.var 47), .nil, (.var 48)]))))))
def B_answer_Parse_4 : T := 
  let e0 : E := (.get (.var 48) (.len (.var 1)))
  let e1 : E := (.app (.var 47) (.lcons (.lcons (.var 49) (.lcons (.var 50) (.lcons (.var 51) .lnil))) .lnil))
  (.ite (.cmp .gtr (.len (.cell e0 0)) (.int 0)) (.ite (.not (.cell e0 1)) (.call 32 [(.len (.var 1)), (.var 48)] 4 (.need (.cmp .leq (.len e1) (.int 5864062014805)) (.again 2 [(.var 35), (.var 36), (.var 37), (.var 38), (.var 39), (.var 40), (.var 41), (.var 42), (.var 43), (.var 44), (.var 45), (.var 46), e1, (.var 52)]))) (.again 1 [(.var 35), (.var 36), (.var 37), (.var 38), (.var 39), (.var 40), (.var 41), (.var 42), (.var 43), (.var 44), (.var 45), (.var 46), (.var 47), (.var 48)])) (.again 1 [(.var 35), (.var 36), (.var 37), (.var 38), (.var 39), (.var 40), (.var 41), (.var 42), (.var 43), (.var 44), (.var 45), (.var 46), (.var 47), (.var 48)]))
def B_answer_Parse_5 : T := 
  let e0 : E := (.get (.var 48) (.len (.var 1)))
  let e1 : E := (.app (.var 47) (.lcons (.lcons (.var 49) (.lcons (.var 50) (.lcons (.var 51) .lnil))) .lnil))
  (.ite (.cmp .gtr (.len (.cell e0 0)) (.int 0)) (.ite (.not (.cell e0 1)) (.call 32 [(.len (.var 1)), (.var 48)] 4 (.need (.cmp .leq (.len e1) (.int 5864062014805)) (.again 2 [(.var 35), (.var 36), (.var 37), (.var 38), (.var 39), (.var 40), (.var 41), (.var 42), (.var 43), (.var 44), (.var 45), (.var 46), e1, (.var 52)]))) (.again 1 [(.var 35), (.var 36), (.var 37), (.var 38), (.var 39), (.var 40), (.var 41), (.var 42), (.var 43), (.var 44), (.var 45), (.var 46), (.var 47), (.var 48)])) (.again 1 [(.var 35), (.var 36), (.var 37), (.var 38), (.var 39), (.var 40), (.var 41), (.var 42), (.var 43), (.var 44), (.var 45), (.var 46), (.var 47), (.var 48)]))
def B_answer_Parse_6 : T := (.ite (.cmp .leq (.var 38) (.int 5)) (.call 15 [(.var 38)] 1 (.ite (.scmp .eql (.var 40) (.var 35)) (.call 19 [(.len (.var 1)), (.var 39)] 2 (.call 19 [(.len (.var 1)), (.var 42)] 2 (.call 19 [(.len (.var 1)), (.var 44)] 2 (.again 1 [(.var 21), (.var 22), (.var 23), (.var 24), (.var 25), (.var 26), (.var 38), (.var 41), (.var 43), (.var 45), (.int 0), (.int 0), (.var 33), (.var 46)])))) (.again 2 [(.ar .add .i64 (.var 38) (.int 1)), (.var 39)]))) (.again 1 [(.var 21), (.var 22), (.var 23), (.var 24), (.var 25), (.var 26), (.var 27), (.var 28), (.var 29), (.var 30), (.var 31), (.var 32), (.var 33), (.set (.var 39) (.len (.var 1)) (.setc 2 (.get (.var 39) (.len (.var 1))) 1 (.bool true)))]))
def B_answer_Parse_7 : T := (.ite (.cmp .leq (.var 38) (.int 5)) (.call 15 [(.var 38)] 1 (.ite (.scmp .eql (.var 40) (.var 35)) (.call 19 [(.len (.var 1)), (.var 39)] 2 (.call 19 [(.len (.var 1)), (.var 42)] 2 (.call 19 [(.len (.var 1)), (.var 44)] 2 (.again 1 [(.var 21), (.var 22), (.var 23), (.var 24), (.var 25), (.var 26), (.var 38), (.var 41), (.var 43), (.var 45), (.int 0), (.int 0), (.var 33), (.var 46)])))) (.again 2 [(.ar .add .i64 (.var 38) (.int 1)), (.var 39)]))) (.again 1 [(.var 21), (.var 22), (.var 23), (.var 24), (.var 25), (.var 26), (.var 27), (.var 28), (.var 29), (.var 30), (.var 31), (.var 32), (.var 33), (.set (.var 39) (.len (.var 1)) (.setc 2 (.get (.var 39) (.len (.var 1))) 1 (.bool true)))]))
def B_answer_Parse_2 : T := 
  let e0 : E := (.cmp .eql (.var 21) (.int 3))
  let e1 : E := (.scmp .eql (.var 35) (.var 37))
  let e2 : E := (.scmp .neq (.var 35) (.str (.mk #[111, 107])))
  let e3 : E := (.get (.var 34) (.len (.var 1)))
  let e4 : E := (.get (.var 38) (.len (.var 1)))
  let e5 : E := (.cell e3 0)
  let e6 : E := (.cell e4 1)
  let e7 : E := (.len e5)
  let e8 : E := (.set (.var 38) (.len (.var 1)) (.setc 2 e4 1 (.bool true)))
  let e9 : E := (.set (.var 36) (.len (.var 1)) (.setc 2 (.get (.var 36) (.len (.var 1))) 1 (.bool true)))
  let e10 : E := (.set (.var 38) (.len (.var 1)) (.setc 2 e4 1 (.cmp .eql (.var 37) (.int 0))))
  (.jp B_answer_Parse_3 (.ite (.cmp .neq (.var 21) (.int 0)) (.ite (.not (.cell e3 1)) (.ite (.cmp .eql (.var 21) (.int 4)) (.ite (.cmp .gtr e7 (.int 0)) (.need (.cmp .lss (.int 0) e7) (.ite (.scmp .eql (.get e5 (.int 0)) (.str (.mk #[101, 114, 114, 111, 114]))) (.call 20 [(.len (.var 1)), (.var 34)] 2 (.call 19 [(.len (.var 1)), (.var 36)] 2 (.ite e6 (.again 1 [(.var 21), (.var 37), (.var 23), (.var 24), (.var 25), (.var 26), (.var 27), (.var 28), (.var 29), (.var 30), (.var 31), (.var 32), (.var 33), e8]) (.again 1 [(.var 21), (.var 37), (.var 23), (.var 24), (.var 25), (.var 26), (.var 27), (.var 28), (.var 29), (.var 30), (.var 31), (.var 32), (.var 33), e10])))) (.loop [(.var 21), (.var 22), (.var 23), (.var 24), (.var 25), (.var 26), (.var 27), (.var 28), (.var 29), (.var 30), (.var 31), (.var 32), (.var 33), (.var 34)] B_answer_Parse_4))) (.loop [(.var 21), (.var 22), (.var 23), (.var 24), (.var 25), (.var 26), (.var 27), (.var 28), (.var 29), (.var 30), (.var 31), (.var 32), (.var 33), (.var 34)] B_answer_Parse_5)) (.call 20 [(.len (.var 1)), (.var 34)] 2 (.ite (.scmp .eql (.var 35) (.str (.mk #[101, 114, 114, 111, 114]))) (.call 19 [(.len (.var 1)), (.var 36)] 2 (.ite e6 (.again 1 [(.var 21), (.var 37), (.var 23), (.var 24), (.var 25), (.var 26), (.var 27), (.var 28), (.var 29), (.var 30), (.var 31), (.var 32), (.var 33), e8]) (.again 1 [(.var 21), (.var 37), (.var 23), (.var 24), (.var 25), (.var 26), (.var 27), (.var 28), (.var 29), (.var 30), (.var 31), (.var 32), (.var 33), e10]))) (.ite (.cmp .eql (.var 21) (.int 2)) (.ite (.scmp .eql (.var 35) (.str (.mk #[97, 115, 107, 101, 100]))) (.again 1 [(.var 21), (.var 22), (.var 23), (.var 24), (.var 25), (.bool true), (.var 27), (.var 28), (.var 29), (.var 30), (.var 31), (.var 32), (.var 33), (.var 36)]) (.ite e0 (.call 15 [(.int 0)] 1 (.ite e1 (.again 1 [(.var 21), (.var 22), (.var 23), (.var 24), (.var 25), (.var 26), (.var 27), (.var 28), (.var 29), (.var 30), (.var 31), (.var 32), (.var 33), (.var 36)]) (.loop [(.int 1), (.var 36)] B_answer_Parse_6))) (.ite e2 (.again 1 [(.var 21), (.var 22), (.var 23), (.var 24), (.var 25), (.var 26), (.var 27), (.var 28), (.var 29), (.var 30), (.var 31), (.var 32), (.var 33), e9]) (.again 1 [(.var 21), (.var 22), (.var 23), (.var 24), (.var 25), (.var 26), (.var 27), (.var 28), (.var 29), (.var 30), (.var 31), (.var 32), (.var 33), (.var 36)])))) (.ite e0 (.call 15 [(.int 0)] 1 (.ite e1 (.again 1 [(.var 21), (.var 22), (.var 23), (.var 24), (.var 25), (.var 26), (.var 27), (.var 28), (.var 29), (.var 30), (.var 31), (.var 32), (.var 33), (.var 36)]) (.loop [(.int 1), (.var 36)] B_answer_Parse_7))) (.ite e2 (.again 1 [(.var 21), (.var 22), (.var 23), (.var 24), (.var 25), (.var 26), (.var 27), (.var 28), (.var 29), (.var 30), (.var 31), (.var 32), (.var 33), e9]) (.again 1 [(.var 21), (.var 22), (.var 23), (.var 24), (.var 25), (.var 26), (.var 27), (.var 28), (.var 29), (.var 30), (.var 31), (.var 32), (.var 33), (.var 36)]))))))) (.again 1 [(.var 21), (.var 22), (.var 23), (.var 24), (.var 25), (.var 26), (.var 27), (.var 28), (.var 29), (.var 30), (.var 31), (.var 32), (.var 33), (.var 34)])) (.again 1 [(.var 21), (.var 22), (.var 23), (.var 24), (.var 25), (.var 26), (.var 27), (.var 28), (.var 29), (.var 30), (.var 31), (.var 32), (.var 33), (.var 34)])))
def B_answer_Parse_1 : T := 
  let e0 : E := (.ar .add .i64 (.var 7) (.int 1))
  (.ite (.cmp .leq (.var 7) (.int 4)) (.call 13 [(.var 7)] 1 (.ite (.scmp .eql (.var 21) (.var 5)) (.again 0 [e0, (.var 7), (.var 9), (.var 10), (.var 11), (.var 12), (.var 13), (.var 14), (.var 15), (.var 16), (.var 17), (.var 18), (.var 19), (.var 20)]) (.again 0 [e0, (.var 8), (.var 9), (.var 10), (.var 11), (.var 12), (.var 13), (.var 14), (.var 15), (.var 16), (.var 17), (.var 18), (.var 19), (.var 20)]))) (.jp B_answer_Parse_2 (.ite (.cmp .eql (.var 8) (.int 1)) (.call 19 [(.len (.var 1)), (.var 6)] 2 (.call 19 [(.len (.var 1)), (.var 22)] 2 (.again 1 [(.var 8), (.var 9), (.var 10), (.var 21), (.var 23), (.var 13), (.var 14), (.var 15), (.var 16), (.var 17), (.var 18), (.var 19), (.var 20), (.var 24)]))) (.ite (.cmp .eql (.var 8) (.int 2)) (.call 19 [(.len (.var 1)), (.var 6)] 2 (.call 19 [(.len (.var 1)), (.var 22)] 2 (.again 1 [(.var 8), (.var 9), (.var 10), (.var 21), (.var 23), (.var 13), (.var 14), (.var 15), (.var 16), (.var 17), (.var 18), (.var 19), (.var 20), (.var 24)]))) (.ite (.cmp .eql (.var 8) (.int 3)) (.call 19 [(.len (.var 1)), (.var 6)] 2 (.again 1 [(.var 8), (.var 9), (.var 10), (.var 11), (.var 21), (.var 13), (.var 14), (.var 15), (.var 16), (.var 17), (.var 18), (.var 19), (.var 20), (.var 22)])) (.again 1 [(.var 8), (.var 9), (.var 10), (.var 11), (.var 12), (.var 13), (.var 14), (.var 15), (.var 16), (.var 17), (.var 18), (.var 19), (.var 20), (.var 6)]))))))
def T_answer_Parse : T := (.call 18 [(.var 0), (.str (.mk #[32]))] 1 (.call 19 [(.len (.var 1)), (.app (.var 1) (.lcons (.lcons (.var 2) (.lcons (.bool false) .lnil)) .lnil))] 2 (.call 20 [(.len (.var 1)), (.var 4)] 2 (.loop [(.int 1), (.int 0), (.int 0), (.var 3), (.int 0), (.int 0), (.bool false), (.int 0), (.int 0), (.int 0), (.int 0), (.int 0), (.int 0), .lnil] B_answer_Parse_1))))
def T_ref16_most : T := (.ite (.cmp .geq (.var 0) (.int 0)) (.ret [(.cmp .leq (.var 0) (.int 9999999))]) (.ret [(.bool false)]))
def B_ref16_Right_5 : T := 
  let e0 : E := (.get (.var 12) (.var 13))
  let e1 : E := (.ar .add .i64 (.var 13) (.int 1))
  let e2 : E := (.cmp .lss (.var 13) (.len (.var 12)))
  let e3 : E := (.cell e0 0)
  let e4 : E := (.cell e0 1)
  let e5 : E := (.cell e0 2)
  (.ite e2 (.need (.cmp .geq (.var 13) (.int 0)) (.need e2 (.ite (.cmp .neq (.var 0) (.int 4)) (.ret [(.bool false)]) (.ite (.cmp .neq (.var 1) (.int 0)) (.ret [(.bool false)]) (.ite (.cmp .lss e3 (.int 0)) (.ret [(.bool false)]) (.ite (.cmp .gtr e3 (.int 8)) (.ret [(.bool false)]) (.ite (.cmp .geq e3 (.int 2)) (.ite (.cmp .leq e3 (.int 4)) (.ret [(.bool false)]) (.call 9 [e4] 1 (.ite (.not (.var 14)) (.ret [(.bool false)]) (.call 9 [e5] 1 (.ite (.not (.var 15)) (.ret [(.bool false)]) (.again 0 [e1])))))) (.call 9 [e4] 1 (.ite (.not (.var 14)) (.ret [(.bool false)]) (.call 9 [e5] 1 (.ite (.not (.var 15)) (.ret [(.bool false)]) (.again 0 [e1])))))))))))) (.ret [(.bool true)]))
def B_ref16_Right_4 : T := (.loop [(.int 0)] B_ref16_Right_5)
def B_ref16_Right_3 : T := (.jp B_ref16_Right_4 (.ite (.not (.and (.cmp .eql (.var 6) (.int 0)) (.and (.cmp .eql (.var 7) (.int 0)) (.and (.cmp .eql (.var 8) (.int 0)) (.and (.cmp .eql (.var 9) (.int 0)) (.and (.cmp .eql (.var 10) (.int 0)) (.cmp .eql (.var 11) (.int 0)))))))) (.ite (.cmp .neq (.var 0) (.int 3)) (.ret [(.bool false)]) (.ite (.cmp .neq (.var 1) (.int 0)) (.ret [(.bool false)]) (.ite (.cmp .lss (.var 6) (.int 1)) (.ret [(.bool false)]) (.ite (.cmp .gtr (.var 6) (.int 5)) (.ret [(.bool false)]) (.call 9 [(.var 7)] 1 (.ite (.not (.var 13)) (.ret [(.bool false)]) (.call 9 [(.var 8)] 1 (.ite (.not (.var 14)) (.ret [(.bool false)]) (.call 9 [(.var 9)] 1 (.ite (.not (.var 15)) (.ret [(.bool false)]) (.ite (.cmp .neq (.var 10) (.int 0)) (.ret [(.bool false)]) (.ite (.cmp .neq (.var 11) (.int 0)) (.ret [(.bool false)]) (.again 0 []))))))))))))) (.again 0 [])))
def B_ref16_Right_2 : T := (.jp B_ref16_Right_3 (.ite (.var 5) (.ite (.cmp .neq (.var 0) (.int 2)) (.ret [(.bool false)]) (.ite (.cmp .neq (.var 1) (.int 0)) (.ret [(.bool false)]) (.again 0 []))) (.again 0 [])))
def B_ref16_Right_1 : T := 
  let e0 : E := (.cmp .eql (.var 0) (.int 4))
  let e1 : E := (.cmp .neq (.var 4) (.int 0))
  (.jp B_ref16_Right_2 (.ite (.cmp .geq (.var 0) (.int 3)) (.ite (.cmp .neq (.var 3) (.int 0)) (.ret [(.bool false)]) (.ite e0 (.ite e1 (.ret [(.bool false)]) (.again 0 [])) (.again 0 []))) (.ite e0 (.ite e1 (.ret [(.bool false)]) (.again 0 [])) (.again 0 []))))
def T_ref16_Right : T := (.jp B_ref16_Right_1 (.ite (.cmp .lss (.var 0) (.int 1)) (.ret [(.bool false)]) (.ite (.cmp .gtr (.var 0) (.int 4)) (.ret [(.bool false)]) (.ite (.cmp .lss (.var 2) (.int 0)) (.ret [(.bool false)]) (.ite (.cmp .gtr (.var 2) (.int 1000000)) (.ret [(.bool false)]) (.call 9 [(.var 3)] 1 (.ite (.not (.var 13)) (.ret [(.bool false)]) (.call 9 [(.var 4)] 1 (.ite (.not (.var 14)) (.ret [(.bool false)]) (.ite (.cmp .lss (.var 1) (.int 0)) (.ret [(.bool false)]) (.again 0 [])))))))))))
def T_law16_awake : T := (.call 10 [(.str (.mk #[57, 32, 99, 97, 110, 99, 101, 108, 32, 55, 32, 48, 32, 97, 115, 107, 101, 100])), (.var 0)] 15 (.ite (.isnil (.var 14)) (.ite (.cmp .eql (.var 1) (.int 2)) (.ite (.cmp .eql (.var 3) (.int 9)) (.ite (.cmp .eql (.var 4) (.int 7)) (.ret [(.var 6), (.var 15)]) (.ret [(.bool false), (.var 15)])) (.ret [(.bool false), (.var 15)])) (.ret [(.bool false), (.var 15)])) (.ret [(.bool false), (.var 15)])))
def B_law16_AnswerLooks_1_1 : T := 
  let e0 : E := (.get (.var 12) (.var 13))
  let e1 : E := (.cmp .lss (.var 13) (.len (.var 12)))
  let e2 : E := (.app (.var 26) (.lcons (.lcons (.cell e0 0) (.lcons (.cell e0 1) (.lcons (.cell e0 2) .lnil))) .lnil))
  (.ite e1 (.need (.cmp .geq (.var 13) (.int 0)) (.need e1 (.need (.cmp .leq (.len e2) (.int 5864062014805)) (.again 0 [(.ar .add .i64 (.var 13) (.int 1)), (.var 14), (.var 15), (.var 16), (.var 17), (.var 18), (.var 19), (.var 20), (.var 21), (.var 22), (.var 23), (.var 24), (.var 25), e2])))) (.ret [(.var 14), (.var 15), (.var 16), (.var 17), (.var 18), (.var 19), (.var 20), (.var 21), (.var 22), (.var 23), (.var 24), (.var 25), (.var 26)]))
def T_law16_AnswerLooks_1 : T := (.loop [(.int 0), (.var 0), (.var 1), (.var 2), (.var 3), (.var 4), (.var 5), (.var 6), (.var 7), (.var 8), (.var 9), (.var 10), (.var 11), .lnil] B_law16_AnswerLooks_1_1)
def B_ref11_Same_1 : T := 
  let e0 : E := (.cmp .geq (.var 26) (.int 0))
  let e1 : E := (.get (.var 12) (.var 26))
  let e2 : E := (.get (.var 25) (.var 26))
  let e3 : E := (.cmp .lss (.var 26) (.len (.var 12)))
  (.ite e3 (.need e0 (.need e3 (.need e0 (.need (.cmp .lss (.var 26) (.len (.var 25))) (.ite (.not (.and (.cmp .eql (.cell e1 0) (.cell e2 0)) (.and (.cmp .eql (.cell e1 1) (.cell e2 1)) (.cmp .eql (.cell e1 2) (.cell e2 2))))) (.ret [(.bool false)]) (.again 0 [(.ar .add .i64 (.var 26) (.int 1))])))))) (.ret [(.bool true)]))
def T_ref11_Same : T := (.ite (.cmp .neq (.var 0) (.var 13)) (.ret [(.bool false)]) (.ite (.cmp .neq (.var 1) (.var 14)) (.ret [(.bool false)]) (.ite (.cmp .neq (.var 2) (.var 15)) (.ret [(.bool false)]) (.ite (.cmp .neq (.var 3) (.var 16)) (.ret [(.bool false)]) (.ite (.cmp .neq (.var 4) (.var 17)) (.ret [(.bool false)]) (.ite (.not (.beq (.var 5) (.var 18))) (.ret [(.bool false)]) (.ite (.not (.and (.cmp .eql (.var 6) (.var 19)) (.and (.cmp .eql (.var 7) (.var 20)) (.and (.cmp .eql (.var 8) (.var 21)) (.and (.cmp .eql (.var 9) (.var 22)) (.and (.cmp .eql (.var 10) (.var 23)) (.cmp .eql (.var 11) (.var 24)))))))) (.ret [(.bool false)]) (.ite (.cmp .neq (.len (.var 12)) (.len (.var 25))) (.ret [(.bool false)]) (.loop [(.int 0)] B_ref11_Same_1)))))))))
def T_law16_AnswerLooks : T := (.ite (.cmp .gtr (.ar .add .i64 (.len (.var 12)) (.len (.var 25))) (.int 20)) (.call 5 [.lnil] 2 (.ret [(.var 26)])) (.call 4 [(.var 0), (.var 1), (.var 2), (.var 3), (.var 4), (.var 5), (.var 6), (.var 7), (.var 8), (.var 9), (.var 10), (.var 11), (.var 12)] 1 (.ite (.not (.var 26)) (.call 5 [.lnil] 2 (.ret [(.var 27)])) (.call 4 [(.var 13), (.var 14), (.var 15), (.var 16), (.var 17), (.var 18), (.var 19), (.var 20), (.var 21), (.var 22), (.var 23), (.var 24), (.var 25)] 1 (.ite (.not (.var 27)) (.call 5 [.lnil] 2 (.ret [(.var 28)])) (.call 6 [(.var 0), (.var 1), (.var 2), (.var 3), (.var 4), (.var 5), (.var 6), (.var 7), (.var 8), (.var 9), (.var 10), (.var 11), (.var 12)] 13 (.call 7 [(.var 28), (.var 29), (.var 30), (.var 31), (.var 32), (.var 33), (.var 34), (.var 35), (.var 36), (.var 37), (.var 38), (.var 39), (.var 40)] 2 (.call 6 [(.var 13), (.var 14), (.var 15), (.var 16), (.var 17), (.var 18), (.var 19), (.var 20), (.var 21), (.var 22), (.var 23), (.var 24), (.var 25)] 13 (.call 7 [(.var 43), (.var 44), (.var 45), (.var 46), (.var 47), (.var 48), (.var 49), (.var 50), (.var 51), (.var 52), (.var 53), (.var 54), (.var 55)] 2 (.call 5 [.lnil] 2 (.ite (.var 58) (.ite (.isnil (.var 42)) (.ite (.isnil (.var 57)) (.call 8 [(.var 0), (.var 1), (.var 2), (.var 3), (.var 4), (.var 5), (.var 6), (.var 7), (.var 8), (.var 9), (.var 10), (.var 11), (.var 12), (.var 13), (.var 14), (.var 15), (.var 16), (.var 17), (.var 18), (.var 19), (.var 20), (.var 21), (.var 22), (.var 23), (.var 24), (.var 25)] 1 (.ret [(.beq (.scmp .eql (.var 41) (.var 56)) (.var 60))])) (.ret [(.bool false)])) (.ret [(.bool false)])) (.ret [(.bool false)]))))))))))))
def prog : List (Nat × T) := [(25, T_cell_Kind), (16, T_answer_word), (23, T_answer_small), (22, T_answer_told), (11, T_answer_Right), (13, T_line_Verb), (15, T_record_Name), (7, T_answer_Print), (20, T_p_answer_reader_next), (31, T_line_Digits), (19, T_p_answer_reader_num), (32, T_p_answer_reader_look), (10, T_answer_Parse), (9, T_ref16_most), (4, T_ref16_Right), (5, T_law16_awake), (6, T_law16_AnswerLooks_1), (8, T_ref11_Same), (3, T_law16_AnswerLooks)]
noncomputable def FX : Nat → Eng.Fn := Fix StrD.base prog
end Go.Proofs.YtmgpbjennnadhaaDoor
