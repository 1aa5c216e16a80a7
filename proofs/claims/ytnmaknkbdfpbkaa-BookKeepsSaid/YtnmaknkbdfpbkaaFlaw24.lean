/- Functions of the program, printed by a program of mine: law24_caps, law24_alive, law24_BookKeeps -/
import Derived.Test.YtnmaknkbdfpbkaaT
import Derived.Test.YtnmaknkbdfpbkaaFbook
import Derived.Test.YtnmaknkbdfpbkaaFbookx2
namespace Go.Proofs.Ytnmaknkbdfpbkaa.K
open Go Go.Proofs
/-! sesame/sesamelaw24.caps -/
def m_law24_caps (a0 : Sl) (a1 : Sl) (K : (Bool) → H → Prop) : H → Prop :=
  mIf (!decide ((a0.len : Int) = (a1.len : Int))) (
    K false
    ) (
    mLoop (fun (rec2 : Int → H → Prop) (s1 : Int) =>
      mIf (decide (s1 < (a0.len : Int))) (
        mIdx a0 s1 3 fun ad3 =>
        mIdx a1 s1 3 fun ad4 =>
        mLoad S_api_Cap.cells ad3 fun x5 =>
        mLoad S_api_Cap.cells ad4 fun x6 =>
        mIf (!((decide (x5.Obj = x6.Obj)) && (((decide (x5.Pass.Hi = x6.Pass.Hi)) && ((decide (x5.Pass.Lo = x6.Pass.Lo)) && true)) && true))) (
          K false
          ) (
          rec2 (iAdd .i64 s1 1)
          )
        ) (
        K true
        )
      ) 0
    )
def x_law24_caps : Cx Try.prog := ⟨tys, [], [], [], mixed⟩
def h_law24_caps : Hint := (.seq .d (.seq .d (.seq (.seq .d (.blk (.loop [.slot 5 (tInt .i64)] 67106864 [] (.seq .d (.seq (.blk (.seq (.reg (.run [0, 4, 8, 16, 20, 24, 14, 30, 32] .nil)) .d)) .d))))) .d)))
theorem w_law24_caps : ∀ (a : Den [tSl, tSl]) (K : Den [tBool] → HP) (h : H), m_law24_caps a.1 a.2 K h = wpF x_law24_caps Try.f50 [tSl, tSl] [tBool] h_law24_caps a K h := fun a K h => by kernel_rfl
def s_law24_caps : Spec Try.prog := mkSpec x_law24_caps 50 Try.f50 [tSl, tSl] [tBool] false h_law24_caps (fun a => m_law24_caps a.1 a.2) w_law24_caps callee50 rfl
/-! sesame/sesamelaw24.alive -/
def m_law24_alive (K : (Bool) → H → Prop) : H → Prop :=
  m_book_New fun r1 =>
  mIf (r1.isNone) (
    K false
    ) (
    m_book_Book_Note r1 (⟨1, 0, 9, ⟨0, ⟨0, 0⟩⟩, false, 0, 0, 0, Sl.nil, 0, Sl.nil⟩ : S_api_Call) (⟨0, ⟨1, ⟨0, 5⟩⟩, Sl.nil, 0⟩ : S_api_Reply) fun _ =>
    m_book_Book_Note r1 (⟨7, 0, 0, ⟨1, ⟨0, 5⟩⟩, false, 0, 0, 0, Sl.nil, 0, Sl.nil⟩ : S_api_Call) (⟨0, ⟨0, ⟨0, 0⟩⟩, Sl.nil, 0⟩ : S_api_Reply) fun _ =>
    mNew 3 #[(Value.int .i64 0)] fun ad4 =>
    m_book_Book_Note r1 (⟨9, 0, 0, ⟨0, ⟨0, 0⟩⟩, false, 0, 0, 0, Sl.nil, 0, (⟨some ad4, 1, 1⟩ : Sl)⟩ : S_api_Call) (⟨0, ⟨0, ⟨0, 0⟩⟩, Sl.nil, 1⟩ : S_api_Reply) fun _ =>
    m_book_Book_Way r1 1 (⟨1, ⟨0, 5⟩⟩ : S_api_Cap) fun r6 =>
    m_book_Book_Rights r1 (⟨1, ⟨0, 5⟩⟩ : S_api_Cap) fun r7 =>
    m_book_Book_Steps r1 fun r8 =>
    mJoin (fun (s11 : Bool) =>
      mJoin (fun (s15 : Bool) =>
        mJoin (fun (s19 : Bool) =>
          mJoin (fun (s22 : Bool) =>
            mJoin (fun (s31 : Bool) =>
              mJoin (fun (s34 : Bool) =>
                mJoin (fun (s37 : Bool) =>
                  mIf s37 (
                    m_book_Book_Honest r1 (⟨5, 2, 0, ⟨1, ⟨0, 5⟩⟩, true, 0, 0, 0, Sl.nil, 0, Sl.nil⟩ : S_api_Call) fun r40 =>
                    K (!r40)
                    ) (
                    K false
                    )
                  ) (fun j38 =>
                  mIf s34 (
                    m_book_Book_Honest r1 (⟨10, 0, 0, ⟨0, ⟨0, 0⟩⟩, false, 0, 0, 0, Sl.nil, 0, Sl.nil⟩ : S_api_Call) fun r41 =>
                    j38 r41
                    ) (
                    j38 false
                    ))
                ) (fun j35 =>
                mIf s31 (
                  m_book_Book_Told r1 2 (⟨1, ⟨0, 5⟩⟩ : S_api_Cap) fun r42 =>
                  j35 (!r42)
                  ) (
                  j35 false
                  ))
              ) (fun j32 =>
              mIf s22 (
                mJoin (fun (s43 : Sl × Sl) =>
                  m_law24_caps s43.1 s43.2 fun r49 =>
                  j32 r49
                  ) (fun j44 =>
                  mBoth (
                    m_book_Book_Known r1 1 fun r45 =>
                    mNew 81 #[(Value.int .i64 1), (Value.int .u64 0), (Value.int .u64 5)] fun ad46 =>
                    j44 (r45, (⟨some ad46, 1, 1⟩ : Sl))
                    ) (
                    mNew 81 #[(Value.int .i64 1), (Value.int .u64 0), (Value.int .u64 5)] fun ad47 =>
                    m_book_Book_Known r1 1 fun r48 =>
                    j44 (r48, (⟨some ad47, 1, 1⟩ : Sl))
                    ))
                ) (
                j32 false
                ))
            ) (fun j23 =>
            mIf s19 (
              m_book_Book_Told r1 0 (⟨1, ⟨0, 5⟩⟩ : S_api_Cap) fun r50 =>
              j23 r50
              ) (
              j23 false
              ))
          ) (fun j20 =>
          mIf s15 (
            mIdx r6.1 1 7 fun ad51 =>
            mLoad (cInt .i64) (ad51.add 0) fun x52 =>
            j20 (decide (x52 = 3))
            ) (
            j20 false
            ))
        ) (fun j16 =>
        mIf s11 (
          mIdx r6.1 1 7 fun ad53 =>
          mLoad (cInt .i64) (ad53.add 3) fun x54 =>
          j16 (decide (x54 = 1))
          ) (
          j16 false
          ))
      ) (fun j12 =>
      mIf (((((decide (r8 = 3)) && (decide (r7.1 = 31))) && r7.2) && r6.2) && (decide ((r6.1.len : Int) = 2))) (
        mIdx r6.1 1 7 fun ad55 =>
        mLoad (cInt .i64) (ad55.add 1) fun x56 =>
        j12 (decide (x56 = 4))
        ) (
        j12 false
        ))
    )
def x_law24_alive : Cx Try.prog := ⟨tys, [s_book_New, s_book_Book_Note, s_book_Book_Known, s_law24_caps, s_book_Book_Way, s_book_Book_Rights, s_book_Book_Steps, s_book_Book_Told, s_book_Book_Honest], [2], [], mixed⟩
def h_law24_alive : Hint := (.seq .d (.seq .d (.seq .d (.seq .d (.seq .d (.seq .d (.seq .d (.seq .d (.seq .d (.seq (.reg (.run [0, 7, 8, 12] (.sel 42 45 61572651155456 (.run [16, 20, 24] .nil) (.run [16, 20, 24] .nil) (.run [28] (.sel 46 48 422212465065984 (.run [32, 36] .nil) (.run [32, 36] .nil) (.run [40] (.sel 49 51 3377699720527872 (.run [44, 48] .nil) (.run [44, 48] .nil) (.run [52] (.sel 52 56 135107988821114880 (.run [56, 60, 64, 68] .nil) (.run [56, 60, 64, 68] .nil) (.run [72] (.join [.slot 63 tBool] 18158513697557839872 [] (.split 57 (.run [76, 80, 84, 90, 92, 96] .nil) (.run [76, 80, 84, 88, 92, 96] .nil)) (.run [100] (.join [.slot 70 tBool] 2324289753287403503616 [] (.split 64 (.run [104, 108, 112, 118, 120, 124] .nil) (.run [104, 108, 112, 116, 120, 124] .nil)) (.run [128] (.join [.slot 77 tBool] 297509088420787648462848 [] (.split 71 (.run [132, 136, 140, 146, 148, 152] .nil) (.run [132, 136, 140, 144, 148, 152] .nil)) (.run [156] (.join [.slot 82 tBool] 9066943647109718810296320 [] (.split 78 (.run [160, 165, 171, 172] .nil) (.run [160, 164, 168, 172] .nil)) (.run [176] (.join [.slot 89 tBool] 1218597226171546208103825408 [] (.split 83 (.run [180, 189] (.join [.slot 85 tSl, .slot 87 tSl] 193428131138340667952988160 [] (.both 46 48 (.run [194] .nil) (.run [187] .nil)) (.run [199, 200] .nil))) (.run [180, 184, 188, 192, 196, 200] .nil)) (.run [204] (.join [.slot 95 tBool] 76752282435693577043745701888 [] (.split 90 (.run [208, 213, 219, 220, 224] .nil) (.run [208, 212, 216, 220, 224] .nil)) (.run [228] (.join [.slot 100 tBool] 2376844875427930127806318510080 [] (.split 96 (.run [232, 236, 243, 244] .nil) (.run [232, 236, 240, 244] .nil)) (.run [248] (.split 101 (.run [252, 257, 260, 267, 268, 272, 276] .nil) (.run [252, 256, 260, 264, 268, 272, 276] .nil)))))))))))))))))))))))))) .d))))))))))
theorem w_law24_alive : ∀ (a : Den []) (K : Den [tBool] → HP) (h : H), m_law24_alive K h = wpF x_law24_alive Try.f47 [] [tBool] h_law24_alive a K h := fun a K h => by kernel_rfl
def s_law24_alive : Spec Try.prog := mkSpec x_law24_alive 47 Try.f47 [] [tBool] false h_law24_alive (fun _ => m_law24_alive) w_law24_alive callee47 rfl
/-! sesame/sesamelaw24.BookKeeps -/
def m_law24_BookKeeps (a0 : Sl) (K : (Bool) → H → Prop) : H → Prop :=
  m_book_New fun r1 =>
  mJoin (fun (s3 : Bool) =>
    mIf s3 (
      K false
      ) (
      mLoop (fun (rec6 : (Sl × Int) → H → Prop) (s5 : Sl × Int) =>
        mIf ((decide (s5.2 < (a0.len : Int))) && (decide (s5.2 < 20))) (
          mIdx a0 s5.2 1 fun ad7 =>
          mLoad (cInt .u64) ad7 fun x8 =>
          mApp 81 3 24 #[(Value.int .i64 0), (Value.int .u64 0), (Value.int .u64 0)] 1 [(Value.int .i64 (iAdd .i64 s5.2 1)), (Value.int .u64 0), (Value.int .u64 x8)] s5.1 fun s9 =>
          m_book_Book_Note r1 (⟨1, 0, 1, ⟨0, ⟨0, 0⟩⟩, false, 0, 0, 0, Sl.nil, 0, Sl.nil⟩ : S_api_Call) (⟨0, ⟨(iAdd .i64 s5.2 1), ⟨0, x8⟩⟩, Sl.nil, 0⟩ : S_api_Reply) fun _ =>
          rec6 (s9, (iAdd .i64 s5.2 1))
          ) (
          m_book_Book_Known r1 0 fun r11 =>
          m_book_Book_Known r1 0 fun r12 =>
          m_law24_caps r11 s5.1 fun r13 =>
          mJoin (fun (s15 : Bool) =>
            mIf s15 (
              K false
              ) (
              mLoop (fun (rec18 : Int → H → Prop) (s17 : Int) =>
                mIf (decide (s17 < (r11.len : Int))) (
                  mIdx r11 s17 3 fun ad19 =>
                  mStore ad19 [(Value.int .i64 (-1)), (Value.int .u64 0), (Value.int .u64 0)] <|
                  rec18 (iAdd .i64 s17 1)
                  ) (
                  mLoop (fun (rec21 : (Sl × Int) → H → Prop) (s20 : Sl × Int) =>
                    mIf (decide (s20.2 < 30)) (
                      mApp 81 3 24 #[(Value.int .i64 0), (Value.int .u64 0), (Value.int .u64 0)] 1 [(Value.int .i64 (-1)), (Value.int .u64 0), (Value.int .u64 0)] s20.1 fun s22 =>
                      rec21 (s22, (iAdd .i64 s20.2 1))
                      ) (
                      m_law24_caps r12 s5.1 fun r23 =>
                      mJoin (fun (s26 : Bool) =>
                        mIf s26 (
                          K false
                          ) (
                          mLoop (fun (rec29 : Int → H → Prop) (s28 : Int) =>
                            mIf (decide (s28 < (s5.1.len : Int))) (
                              mIdx s5.1 s28 3 fun ad30 =>
                              mLoad S_api_Cap.cells ad30 fun x31 =>
                              m_book_Book_Way r1 0 x31 fun r32 =>
                              mIdx s5.1 s28 3 fun ad33 =>
                              mLoad S_api_Cap.cells ad33 fun x34 =>
                              m_book_Book_Way r1 0 x34 fun r35 =>
                              mIf ((((!r32.2) || (!r35.2)) || (!decide ((r32.1.len : Int) = 1))) || (!decide ((r35.1.len : Int) = 1))) (
                                K false
                                ) (
                                mIdx r32.1 0 7 fun ad36 =>
                                mStore ad36 [(Value.int .i64 (-9)), (Value.int .i64 0), (Value.int .i64 0), (Value.int .i64 0), (Value.int .i64 0), (Value.int .u64 0), (Value.int .u64 0)] <|
                                mApp 93 7 56 #[(Value.int .i64 0), (Value.int .i64 0), (Value.int .i64 0), (Value.int .i64 0), (Value.int .i64 0), (Value.int .u64 0), (Value.int .u64 0)] 2 [(Value.int .i64 (-9)), (Value.int .i64 0), (Value.int .i64 0), (Value.int .i64 0), (Value.int .i64 0), (Value.int .u64 0), (Value.int .u64 0), (Value.int .i64 (-9)), (Value.int .i64 0), (Value.int .i64 0), (Value.int .i64 0), (Value.int .i64 0), (Value.int .u64 0), (Value.int .u64 0)] r32.1 fun s37 =>
                                mJoin (fun (s40 : Bool) =>
                                  mJoin (fun (s46 : Bool) =>
                                    mIf s46 (
                                      K false
                                      ) (
                                      mIdx s5.1 s28 3 fun ad48 =>
                                      mLoad S_api_Cap.cells ad48 fun x49 =>
                                      m_book_Book_Way r1 0 x49 fun r50 =>
                                      mJoin (fun (s55 : Bool) =>
                                        mIf s55 (
                                          K false
                                          ) (
                                          rec29 (iAdd .i64 s28 1)
                                          )
                                        ) (fun j56 =>
                                        mIf (!decide ((r50.1.len : Int) = 1)) (
                                          j56 true
                                          ) (
                                          mIdx r50.1 0 7 fun ad57 =>
                                          mIdx r35.1 0 7 fun ad58 =>
                                          mLoad S_book_Link.cells ad57 fun x59 =>
                                          mLoad S_book_Link.cells ad58 fun x60 =>
                                          j56 (!((decide (x59.Step = x60.Step)) && ((decide (x59.Kind = x60.Kind)) && ((decide (x59.By = x60.By)) && ((decide (x59.To = x60.To)) && (((decide (x59.Cap.Obj = x60.Cap.Obj)) && (((decide (x59.Cap.Pass.Hi = x60.Cap.Pass.Hi)) && ((decide (x59.Cap.Pass.Lo = x60.Cap.Pass.Lo)) && true)) && true)) && true))))))
                                          ))
                                      )
                                    ) (fun j47 =>
                                    mIf s40 (
                                      j47 true
                                      ) (
                                      mIdx r35.1 0 7 fun ad61 =>
                                      mIdx s5.1 s28 3 fun ad62 =>
                                      mLoad S_api_Cap.cells (ad61.add 4) fun x63 =>
                                      mLoad S_api_Cap.cells ad62 fun x64 =>
                                      j47 (!((decide (x63.Obj = x64.Obj)) && (((decide (x63.Pass.Hi = x64.Pass.Hi)) && ((decide (x63.Pass.Lo = x64.Pass.Lo)) && true)) && true)))
                                      ))
                                  ) (fun j41 =>
                                  mIf (!decide ((s37.len : Int) = 3)) (
                                    j41 true
                                    ) (
                                    mIdx r35.1 0 7 fun ad65 =>
                                    mLoad (cInt .i64) (ad65.add 0) fun x66 =>
                                    j41 (!decide (x66 = (iAdd .i64 s28 1)))
                                    ))
                                )
                              ) (
                              K true
                              )
                            ) 0
                          )
                        ) (fun j27 =>
                        mIf (!r23) (
                          j27 true
                          ) (
                          m_book_Book_Known r1 0 fun r67 =>
                          m_law24_caps r67 s5.1 fun r68 =>
                          j27 (!r68)
                          ))
                      )
                    ) (r11, 0)
                  )
                ) 0
              )
            ) (fun j16 =>
            mIf (!r13) (
              j16 true
              ) (
              m_law24_caps r12 s5.1 fun r69 =>
              j16 (!r69)
              ))
          )
        ) (Sl.nil, 0)
      )
    ) (fun j4 =>
    mIf (r1.isNone) (
      j4 true
      ) (
      m_law24_alive fun r70 =>
      j4 (!r70)
      ))
def x_law24_BookKeeps : Cx Try.prog := ⟨tys, [s_book_New, s_law24_alive, s_book_Book_Note, s_book_Book_Known, s_law24_caps, s_book_Book_Way], [6, 46, 83, 142], [], mixed⟩
def h_law24_BookKeeps : Hint := (.seq .d (.seq .d (.seq (.seq (.reg (.run [3, 7, 11] (.join [.slot 25 tBool] 58720256 [] (.split 22 (.run [15, 19, 23] .nil) (.run [15, 19, 23] .nil)) .nil))) .d) (.seq .d (.seq (.seq .d (.blk (.loop [.slot 4 tSl, .slot 5 (tInt .i64)] 9007199187632240 [] (.seq (.seq (.reg (.run [3, 7, 11, 15, 19] (.sel 30 33 15032385536 (.run [23, 27, 31] .nil) (.run [23, 27, 31] .nil) .nil))) .d) .d)))) (.seq .d (.seq .d (.seq (.seq (.reg (.run [3, 7, 11, 15, 19] (.join [.slot 66 tBool] 142962266571249025024 [] (.split 61 (.run [23, 27, 31, 35, 39] .nil) (.run [23, 27, 31, 35, 39] .nil)) .nil))) .d) (.seq (.seq .d (.blk (.loop [.slot 9 (tInt .i64)] 150968153499238970425856 [] .d))) (.seq (.seq .d (.blk (.loop [.slot 7 tSl, .slot 10 (tInt .i64)] 38534510500216304943760512 [] .d))) (.seq (.seq (.reg (.run [3, 7, 11, 15, 19] (.join [.slot 95 tBool] 77990222474978957318644826112 [] (.split 89 (.run [23, 27, 31, 35, 39, 43] .nil) (.run [23, 27, 31, 35, 39, 43] .nil)) .nil))) .d) (.seq (.seq .d (.blk (.loop [.slot 11 (tInt .i64)] 392318858461667547739736838871250988492132877685458728964 [] (.seq .d (.seq (.blk (.seq .d (.seq .d (.seq (.seq (.reg (.run [3, 7, 11] (.sel 122 125 74436767763955288882613195375699296256 (.run [15, 19, 23] .nil) (.run [15, 19, 23] .nil) (.run [27] (.sel 126 130 2552117751907038475975309555738261585920 (.run [31, 35, 39, 43] .nil) (.run [31, 35, 39, 43] .nil) (.run [47] (.sel 131 135 81667768061025231231209905783624370749440 (.run [51, 55, 59, 63] .nil) (.run [51, 55, 59, 63] .nil) .nil))))))) .d) (.seq .d (.seq .d (.seq (.seq (.reg (.run [0, 4, 8, 12] (.join [.slot 155 tBool] 90987040410004942417465730552405314944400097280 [] (.split 147 (.run [16, 20, 24, 28, 32, 36, 40, 44] .nil) (.run [16, 20, 24, 32, 36, 30, 40, 44] .nil)) (.run [48] (.join [.slot 166 tBool] 186889521873689210665296197983594691138502373933056 [] (.split 156 (.run [52, 56, 60, 64, 68, 72, 76, 80, 84, 88] .nil) (.run [52, 56, 60, 68, 72, 76, 66, 82, 84, 88] .nil)) .nil))))) .d) (.seq .d (.seq (.reg (.run [0, 4, 8, 12] (.join [.slot 187 tBool] 390786362920801658881378491923328841822778476156818554880 [] (.split 179 (.run [16, 20, 24, 28, 32, 36, 40, 44] .nil) (.run [16, 20, 28, 32, 26, 38, 40, 44] .nil)) .nil))) .d))))))))) .d))))) .d))))))))))))
theorem w_law24_BookKeeps : ∀ (a : Den [tSl]) (K : Den [tBool] → HP) (h : H), m_law24_BookKeeps a K h = wpF x_law24_BookKeeps Try.f12 [tSl] [tBool] h_law24_BookKeeps a K h := fun a K h => by kernel_rfl
def s_law24_BookKeeps : Spec Try.prog := mkSpec x_law24_BookKeeps 12 Try.f12 [tSl] [tBool] false h_law24_BookKeeps (fun a => m_law24_BookKeeps a) w_law24_BookKeeps callee12 rfl
end Go.Proofs.Ytnmaknkbdfpbkaa.K
