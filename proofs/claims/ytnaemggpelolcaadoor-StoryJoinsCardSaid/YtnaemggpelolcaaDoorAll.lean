/-
  What functions of the program come to, read by program.
-/
import Derived.Test.YtnaemggpelolcaaDoorEngX
import Derived.Test.YtnaemggpelolcaaDoorStrF
namespace Go.Proofs.YtnaemggpelolcaaDoor
open Go.Proofs.YtnaemggpelolcaaDoor.Eng
set_option linter.unusedVariables false
set_option maxRecDepth 20000
def cfg : Cf := ⟨[], [], [], [], [], [], []⟩
def B_law26_light_2 : T := 
  let e0 : E := (.get (.var 0) (.var 2))
  let e1 : E := (.slen e0)
  let e2 : E := (.cmp .lss (.var 3) e1)
  (.ite e2 (.need (.cmp .geq (.var 3) (.int 0)) (.need e2 (.ite (.cmp .eql (.sidx e0 (.var 3)) (.int 10)) (.ret [(.bool false)]) (.again 1 [(.ar .add .i64 (.var 3) (.int 1))])))) (.again 0 [(.ar .add .i64 (.var 1) (.ar .add .i64 e1 (.int 1))), (.ar .add .i64 (.var 2) (.int 1))]))
def B_law26_light_1 : T := 
  let e0 : E := (.cmp .lss (.var 2) (.len (.var 0)))
  (.ite e0 (.need (.cmp .geq (.var 2) (.int 0)) (.need e0 (.ite (.cmp .gtr (.ar .add .i64 (.var 1) (.ar .add .i64 (.slen (.get (.var 0) (.var 2))) (.int 1))) (.int 5000)) (.ret [(.bool false)]) (.loop [(.int 0)] B_law26_light_2)))) (.ret [(.cmp .leq (.len (.var 0)) (.int 100))]))
def T_law26_light : T := (.loop [(.int 0), (.int 0)] B_law26_light_1)
def T_internal_stringslite_HasPrefix : T := (.ite (.cmp .geq (.slen (.var 0)) (.slen (.var 1))) (.need (.cmp .leq (.int 0) (.int 0)) (.need (.cmp .leq (.int 0) (.slen (.var 1))) (.need (.cmp .leq (.slen (.var 1)) (.slen (.var 0))) (.ret [(.scmp .eql (.ssub (.var 0) (.int 0) (.slen (.var 1))) (.var 1))])))) (.ret [(.bool false)]))
def T_strings_HasPrefix : T := (.call 13 [(.var 0), (.var 1)] 1 (.ret [(.var 2)]))
def B_slices_Index_string_string_1 : T := 
  let e0 : E := (.cmp .lss (.var 2) (.len (.var 0)))
  (.ite e0 (.need (.cmp .geq (.var 2) (.int 0)) (.need e0 (.ite (.scmp .eql (.var 1) (.get (.var 0) (.var 2))) (.ret [(.var 2)]) (.again 0 [(.ar .add .i64 (.var 2) (.int 1))])))) (.ret [(.int (-(0) - 1))]))
def T_slices_Index_string_string : T := (.loop [(.int 0)] B_slices_Index_string_string_1)
def T_slices_Contains_string_string : T := (.call 21 [(.var 0), (.var 1)] 1 (.ret [(.cmp .geq (.var 2) (.int 0))]))
def T_story_known : T := (.call 14 [(.var 0), (.str (.mk #[32]))] 3 (.call 15 [(.lcons (.str (.mk #[115, 97, 121])) (.lcons (.str (.mk #[116, 105, 99, 107])) (.lcons (.str (.mk #[112, 105, 99, 107])) (.lcons (.str (.mk #[100, 114, 97, 119])) .lnil)))), (.var 1)] 1 (.ret [(.var 4)])))
def T_fault_With : T := (.ite (.isnil (.var 1)) (.ret [.nil]) (.ret [(.mkif 43 (.lcons (.var 0) (.lcons (.var 1) .lnil)))]))
def T_fault_At : T := (.ite (.isnil (.var 1)) (.ret [.nil]) (.ret [(.mkif 46 (.lcons (.var 0) (.lcons (.var 1) .lnil)))]))
def T_internal_stringslite_CutPrefix : T := (.call 13 [(.var 0), (.var 1)] 1 (.ite (.not (.var 2)) (.ret [(.var 0), (.bool false)]) (.need (.cmp .leq (.int 0) (.slen (.var 1))) (.need (.cmp .leq (.slen (.var 1)) (.slen (.var 0))) (.need (.cmp .leq (.slen (.var 0)) (.slen (.var 0))) (.ret [(.ssub (.var 0) (.slen (.var 1)) (.slen (.var 0))), (.bool true)]))))))
def T_strings_CutPrefix : T := (.call 33 [(.var 0), (.var 1)] 2 (.ret [(.var 2), (.var 3)]))
def B_line_Digits_1 : T := 
  let e0 : E := (.cmp .geq (.var 1) (.int 0))
  let e1 : E := (.sidx (.var 0) (.var 1))
  let e2 : E := (.cmp .lss (.var 1) (.slen (.var 0)))
  (.ite e2 (.need e0 (.need e2 (.ite (.cmp .lss e1 (.int 48)) (.ret [(.bool false)]) (.need e0 (.need e2 (.ite (.cmp .gtr e1 (.int 57)) (.ret [(.bool false)]) (.again 0 [(.ar .add .i64 (.var 1) (.int 1))]))))))) (.ret [(.bool true)]))
def B_line_Digits_2 : T := 
  let e0 : E := (.cmp .geq (.var 1) (.int 0))
  let e1 : E := (.sidx (.var 0) (.var 1))
  let e2 : E := (.cmp .lss (.var 1) (.slen (.var 0)))
  (.ite e2 (.need e0 (.need e2 (.ite (.cmp .lss e1 (.int 48)) (.ret [(.bool false)]) (.need e0 (.need e2 (.ite (.cmp .gtr e1 (.int 57)) (.ret [(.bool false)]) (.again 0 [(.ar .add .i64 (.var 1) (.int 1))]))))))) (.ret [(.bool true)]))
def T_line_Digits : T := (.ite (.scmp .eql (.var 0) (.str (.mk #[]))) (.ret [(.bool false)]) (.ite (.cmp .gtr (.slen (.var 0)) (.int 7)) (.ret [(.bool false)]) (.need (.cmp .lss (.int 0) (.slen (.var 0))) (.ite (.cmp .eql (.sidx (.var 0) (.int 0)) (.int 48)) (.ite (.scmp .neq (.var 0) (.str (.mk #[48]))) (.ret [(.bool false)]) (.loop [(.int 0)] B_line_Digits_1)) (.loop [(.int 0)] B_line_Digits_2)))))
def T_story_number : T := (.call 23 [(.var 0), (.str (.mk #[45]))] 2 (.call 24 [(.var 1)] 1 (.ite (.not (.var 3)) (.ret [(.int 0), (.bool false)]) (.ite (.var 2) (.ite (.scmp .eql (.var 1) (.str (.mk #[48]))) (.ret [(.int 0), (.bool false)]) (.call 25 [(.var 0)] 2 (.ret [(.var 4), (.bool true)]))) (.call 25 [(.var 0)] 2 (.ret [(.var 4), (.bool true)]))))))
def T_math_bits_Mul32 : T := 
  let e0 : E := (.ar .mul .u64 (.conv .u64 (.var 0)) (.conv .u64 (.var 1)))
  (.ret [(.conv .u32 (.ar .shr .u64 e0 (.int 32))), (.conv .u32 e0)])
def T_math_bits_Mul64 : T := 
  let e0 : E := (.ar .shr .u64 (.var 0) (.int 32))
  let e1 : E := (.ar .shr .u64 (.var 1) (.int 32))
  let e2 : E := (.ar .and .u64 (.var 1) (.int 4294967295))
  let e3 : E := (.ar .and .u64 (.var 0) (.int 4294967295))
  let e4 : E := (.ar .add .u64 (.ar .mul .u64 e0 e2) (.ar .shr .u64 (.ar .mul .u64 e3 e2) (.int 32)))
  (.ret [(.ar .add .u64 (.ar .add .u64 (.ar .mul .u64 e0 e1) (.ar .shr .u64 e4 (.int 32))) (.ar .shr .u64 (.ar .add .u64 (.ar .and .u64 e4 (.int 4294967295)) (.ar .mul .u64 e3 e1)) (.int 32))), (.ar .mul .u64 (.var 0) (.var 1))])
def T_math_bits_Mul : T := (.call 40 [(.var 0), (.var 1)] 2 (.ret [(.var 2), (.var 3)]))
def B_slices_Repeat_gate_Event_gate_Event_1 : T := 
  let e0 : E := (.cmp .leq (.int 0) (.var 4))
  let e1 : E := (.cmp .leq (.var 4) (.len (.var 5)))
  let e2 : E := (.sub (.var 5) (.int 0) (.var 4))
  let e3 : E := (.len e2)
  let e4 : E := (.sub (.var 5) (.var 4) (.len (.var 5)))
  let e5 : E := (.len e4)
  let e6 : E := (.ite (.cmp .leq e3 e5) e3 e5)
  (.ite (.cmp .lss (.var 4) (.len (.var 5))) (.need e0 (.need e1 (.need (.cmp .leq (.len (.var 5)) (.len (.var 5))) (.need (.cmp .leq (.int 0) (.int 0)) (.need e0 (.need e1 (.again 0 [(.ar .add .i64 (.var 4) e6), (.app e2 (.app (.sub e2 (.int 0) e6) (.sub e4 e6 e5)))]))))))) (.ret [(.var 5)]))
def T_slices_Repeat_gate_Event_gate_Event : T := 
  let e0 : E := (.rep (.conv .i64 (.var 3)) (.lcons (.int 0) (.lcons (.int 0) (.lcons (.int 0) (.lcons (.str (.mk #[])) .lnil)))))
  let e1 : E := (.len e0)
  let e2 : E := (.ite (.cmp .leq (.len (.var 0)) e1) (.len (.var 0)) e1)
  (.ite (.cmp .lss (.var 1) (.int 0)) (.need (.bool false) (.ret [])) (.call 27 [(.conv .u64 (.len (.var 0))), (.conv .u64 (.var 1))] 2 (.ite (.cmp .gtr (.var 2) (.int 0)) (.need (.bool false) (.ret [])) (.ite (.cmp .gtr (.var 3) (.int 9223372036854775807)) (.need (.bool false) (.ret [])) (.need (.cmp .geq (.conv .i64 (.var 3)) (.int 0)) (.need (.cmp .leq (.conv .i64 (.var 3)) (.int 3518437208883)) (.loop [e2, (.app (.sub (.var 0) (.int 0) e2) (.sub e0 e2 e1))] B_slices_Repeat_gate_Event_gate_Event_1)))))))
def B_story_parse_1 : T := 
  let e0 : E := (.get (.var 6) (.int 0))
  let e1 : E := (.lcons (.str (.mk #[])) .lnil)
  let e2 : E := (.scmp .eql (.var 1) (.str (.mk #[112, 105, 99, 107])))
  let e3 : E := (.get (.var 6) (.int 1))
  let e4 : E := (.scmp .eql (.var 1) (.str (.mk #[100, 114, 97, 119])))
  let e5 : E := (.cmp .lss (.var 5) (.len (.var 4)))
  let e6 : E := (.cmp .eql (.len (.var 6)) (.int 1))
  let e7 : E := (.cmp .lss (.int 0) (.len (.var 6)))
  let e8 : E := (.cmp .eql (.len (.var 6)) (.int 2))
  let e9 : E := (.cmp .lss (.int 1) (.len (.var 6)))
  let e10 : E := (.app (.var 6) (.lcons (.var 7) .lnil))
  let e11 : E := (.cmp .geq e3 (.int 2))
  let e12 : E := (.cmp .leq e3 (.int 10000))
  let e13 : E := (.lcons (.lcons (.int 3) (.lcons e0 (.lcons (.int 0) e1))) .lnil)
  let e14 : E := (.lcons (.lcons (.int 4) (.lcons e0 (.lcons e3 e1))) .lnil)
  (.ite e5 (.need (.cmp .geq (.var 5) (.int 0)) (.need e5 (.call 17 [(.get (.var 4) (.var 5))] 2 (.ite (.not (.var 8)) (.call 11 [(.ar .add .i64 (.slen (.var 1)) (.int 1)), (.mkif 38 (.int 13))] 1 (.ret [.lnil, (.var 9)])) (.need (.cmp .leq (.len e10) (.int 17592186044416)) (.again 0 [(.ar .add .i64 (.var 5) (.int 1)), e10])))))) (.ite (.scmp .eql (.var 1) (.str (.mk #[116, 105, 99, 107]))) (.ite e6 (.need e7 (.ret [(.lcons (.lcons (.int 2) (.lcons (.int 0) (.lcons e0 e1))) .lnil), .nil])) (.ite e2 (.ite e8 (.need e9 (.ite e11 (.need e9 (.ite e12 (.need e7 (.need e9 (.call 19 [e13, e3] 1 (.ret [(.var 7), .nil])))) (.ite e4 (.need e7 (.need e9 (.ret [e14, .nil]))) (.call 11 [(.int 0), (.mkif 38 (.int 10))] 1 (.ret [.lnil, (.var 7)]))))) (.ite e4 (.need e7 (.need e9 (.ret [e14, .nil]))) (.call 11 [(.int 0), (.mkif 38 (.int 10))] 1 (.ret [.lnil, (.var 7)]))))) (.ite e4 (.call 11 [(.int 0), (.mkif 38 (.int 10))] 1 (.ret [.lnil, (.var 7)])) (.call 11 [(.int 0), (.mkif 38 (.int 10))] 1 (.ret [.lnil, (.var 7)])))) (.ite e4 (.ite e8 (.need e7 (.need e9 (.ret [e14, .nil]))) (.call 11 [(.int 0), (.mkif 38 (.int 10))] 1 (.ret [.lnil, (.var 7)]))) (.call 11 [(.int 0), (.mkif 38 (.int 10))] 1 (.ret [.lnil, (.var 7)]))))) (.ite e2 (.ite e6 (.need e7 (.ret [e13, .nil])) (.ite e8 (.need e9 (.ite e11 (.need e9 (.ite e12 (.need e7 (.need e9 (.call 19 [e13, e3] 1 (.ret [(.var 7), .nil])))) (.ite e4 (.need e7 (.need e9 (.ret [e14, .nil]))) (.call 11 [(.int 0), (.mkif 38 (.int 10))] 1 (.ret [.lnil, (.var 7)]))))) (.ite e4 (.need e7 (.need e9 (.ret [e14, .nil]))) (.call 11 [(.int 0), (.mkif 38 (.int 10))] 1 (.ret [.lnil, (.var 7)]))))) (.ite e4 (.call 11 [(.int 0), (.mkif 38 (.int 10))] 1 (.ret [.lnil, (.var 7)])) (.call 11 [(.int 0), (.mkif 38 (.int 10))] 1 (.ret [.lnil, (.var 7)]))))) (.ite e4 (.ite e8 (.need e7 (.need e9 (.ret [e14, .nil]))) (.call 11 [(.int 0), (.mkif 38 (.int 10))] 1 (.ret [.lnil, (.var 7)]))) (.call 11 [(.int 0), (.mkif 38 (.int 10))] 1 (.ret [.lnil, (.var 7)]))))))
def T_story_parse : T := (.call 14 [(.var 0), (.str (.mk #[32]))] 3 (.ite (.scmp .eql (.var 1) (.str (.mk #[115, 97, 121]))) (.call 14 [(.var 2), (.str (.mk #[32]))] 3 (.call 17 [(.var 4)] 2 (.ite (.not (.var 6)) (.call 11 [(.int 4), (.mkif 38 (.int 13))] 1 (.ret [.lnil, (.var 9)])) (.ite (.not (.var 8)) (.call 11 [(.int 4), (.mkif 38 (.int 13))] 1 (.ret [.lnil, (.var 9)])) (.ret [(.lcons (.lcons (.int 1) (.lcons (.var 7) (.lcons (.int 0) (.lcons (.var 5) .lnil)))) .lnil), .nil]))))) (.call 18 [(.var 2), (.str (.mk #[32]))] 1 (.loop [(.int 0), .lnil] B_story_parse_1))))
def B_story_Parse_1 : T := 
  let e0 : E := (.get (.var 0) (.var 1))
  let e1 : E := (.ar .add .i64 (.var 1) (.int 1))
  let e2 : E := (.app (.var 2) (.var 5))
  let e3 : E := (.cmp .lss (.var 1) (.len (.var 0)))
  (.ite e3 (.need (.cmp .geq (.var 1) (.int 0)) (.need e3 (.ite (.scmp .eql e0 (.str (.mk #[]))) (.again 0 [e1, (.var 2)]) (.call 7 [e0, (.str (.mk #[35]))] 1 (.ite (.var 3) (.again 0 [e1, (.var 2)]) (.call 8 [e0] 1 (.ite (.not (.var 4)) (.call 10 [e1] 1 (.call 11 [(.int 0), (.mkif 38 (.int 10))] 1 (.call 9 [(.var 5), (.var 6)] 1 (.ret [.lnil, (.var 7)])))) (.call 12 [e0] 2 (.ite (.not (.isnil (.var 6))) (.call 10 [e1] 1 (.call 9 [(.var 7), (.var 6)] 1 (.ret [.lnil, (.var 8)]))) (.need (.cmp .leq (.len e2) (.int 3518437208883)) (.again 0 [e1, e2]))))))))))) (.ret [(.var 2), .nil]))
def T_story_Parse : T := (.loop [(.int 0), .lnil] B_story_Parse_1)
def T_law26_awake : T := 
  let e0 : E := (.get (.var 0) (.int 0))
  let e1 : E := (.get (.var 0) (.int 3))
  (.call 6 [(.lcons (.str (.mk #[115, 97, 121, 32, 48, 32, 118, 105, 101, 119])) (.lcons (.str (.mk #[112, 105, 99, 107, 32, 48, 32, 51])) .lnil))] 2 (.ite (.isnil (.var 1)) (.ite (.cmp .eql (.len (.var 0)) (.int 4)) (.need (.cmp .lss (.int 0) (.len (.var 0))) (.ite (.and (.cmp .eql (.cell e0 0) (.int 1)) (.and (.cmp .eql (.cell e0 1) (.int 0)) (.and (.cmp .eql (.cell e0 2) (.int 0)) (.scmp .eql (.cell e0 3) (.str (.mk #[118, 105, 101, 119])))))) (.need (.cmp .lss (.int 3) (.len (.var 0))) (.ret [(.and (.cmp .eql (.cell e1 0) (.int 3)) (.and (.cmp .eql (.cell e1 1) (.int 0)) (.and (.cmp .eql (.cell e1 2) (.int 0)) (.scmp .eql (.cell e1 3) (.str (.mk #[]))))))])) (.ret [(.bool false)]))) (.ret [(.bool false)])) (.ret [(.bool false)])))
def B_law26_StoryJoins_1 : T := 
  let e0 : E := (.cmp .geq (.var 10) (.int 0))
  let e1 : E := (.get (.var 8) (.var 10))
  let e2 : E := (.get (.var 4) (.var 10))
  let e3 : E := (.ar .add .i64 (.var 10) (.int 1))
  let e4 : E := (.cmp .lss (.var 10) (.len (.var 8)))
  let e5 : E := (.cmp .lss (.var 10) (.len (.var 4)))
  let e6 : E := (.cell e1 0)
  let e7 : E := (.cell e1 1)
  let e8 : E := (.cell e1 2)
  let e9 : E := (.cell e1 3)
  let e10 : E := (.cmp .geq (.var 10) (.len (.var 4)))
  let e11 : E := (.ar .sub .i64 (.var 10) (.len (.var 4)))
  let e12 : E := (.cmp .geq e11 (.int 0))
  let e13 : E := (.get (.var 6) e11)
  let e14 : E := (.cmp .lss e11 (.len (.var 6)))
  let e15 : E := (.not (.and (.cmp .eql e6 (.cell e13 0)) (.and (.cmp .eql e7 (.cell e13 1)) (.and (.cmp .eql e8 (.cell e13 2)) (.scmp .eql e9 (.cell e13 3))))))
  (.ite e4 (.ite e5 (.need e0 (.need e4 (.need e0 (.need e5 (.ite (.not (.and (.cmp .eql e6 (.cell e2 0)) (.and (.cmp .eql e7 (.cell e2 1)) (.and (.cmp .eql e8 (.cell e2 2)) (.scmp .eql e9 (.cell e2 3)))))) (.ret [(.bool false)]) (.ite e10 (.need e0 (.need e4 (.need e12 (.need e14 (.ite e15 (.ret [(.bool false)]) (.again 0 [e3])))))) (.again 0 [e3]))))))) (.ite e10 (.need e0 (.need e4 (.need e12 (.need e14 (.ite e15 (.ret [(.bool false)]) (.again 0 [e3])))))) (.again 0 [e3]))) (.call 5 [] 1 (.ret [(.var 11)])))
def T_law26_StoryJoins : T := 
  let e0 : E := (.ar .add .i64 (.len (.var 4)) (.len (.var 6)))
  let e1 : E := (.app (.var 0) (.lcons (.str (.mk #[])) (.lcons (.str (.mk #[35, 32, 97, 110, 100])) .lnil)))
  let e2 : E := (.app e1 (.var 1))
  (.call 4 [(.var 0)] 1 (.ite (.not (.var 2)) (.call 5 [] 1 (.ret [(.var 3)])) (.call 4 [(.var 1)] 1 (.ite (.not (.var 3)) (.call 5 [] 1 (.ret [(.var 4)])) (.call 6 [(.var 0)] 2 (.call 6 [(.var 1)] 2 (.ite (.not (.isnil (.var 5))) (.call 5 [] 1 (.ret [(.var 8)])) (.ite (.not (.isnil (.var 7))) (.call 5 [] 1 (.ret [(.var 8)])) (.ite (.cmp .gtr e0 (.int 50000)) (.call 5 [] 1 (.ret [(.var 8)])) (.need (.cmp .leq (.len (.var 0)) (.int 8796093022208)) (.need (.cmp .leq (.len e1) (.int 8796093022208)) (.need (.cmp .leq (.len e2) (.int 8796093022208)) (.call 6 [e2] 2 (.ite (.not (.isnil (.var 9))) (.ret [(.bool false)]) (.ite (.cmp .neq (.len (.var 8)) e0) (.ret [(.bool false)]) (.loop [(.int 0)] B_law26_StoryJoins_1))))))))))))))))
def prog : List (Nat × T) := [(4, T_law26_light), (13, T_internal_stringslite_HasPrefix), (7, T_strings_HasPrefix), (21, T_slices_Index_string_string), (15, T_slices_Contains_string_string), (8, T_story_known), (9, T_fault_With), (11, T_fault_At), (33, T_internal_stringslite_CutPrefix), (23, T_strings_CutPrefix), (24, T_line_Digits), (17, T_story_number), (39, T_math_bits_Mul32), (40, T_math_bits_Mul64), (27, T_math_bits_Mul), (19, T_slices_Repeat_gate_Event_gate_Event), (12, T_story_parse), (6, T_story_Parse), (5, T_law26_awake), (3, T_law26_StoryJoins)]
noncomputable def FX : Nat → Eng.Fn := Fix StrD.base prog
end Go.Proofs.YtnaemggpelolcaaDoor
