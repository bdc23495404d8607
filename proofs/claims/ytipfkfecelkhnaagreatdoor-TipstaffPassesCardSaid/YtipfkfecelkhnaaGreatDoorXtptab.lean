/- The interpreter's functions, part table: made by program (geny.py). -/
import Derived.Test.YtipfkfecelkhnaaGreatDoorXtpz
import Derived.Test.YtipfkfecelkhnaaGreatDoorProg
import Derived.Test.YtipfkfecelkhnaaGreatDoorXtpt0
import Derived.Test.YtipfkfecelkhnaaGreatDoorXtpt1
import Derived.Test.YtipfkfecelkhnaaGreatDoorXtpt2
import Derived.Test.YtipfkfecelkhnaaGreatDoorEngXN
import Derived.Test.YtipfkfecelkhnaaGreatDoorEngXW
import Derived.Laws.Externs
import Derived.Test.YtipfkfecelkhnaaGreatDoorLive
import Derived.Test.YtipfkfecelkhnaaGreatDoorEngXZ
set_option maxRecDepth 100000
set_option linter.unusedVariables false
namespace Go.Proofs.YtipfkfecelkhnaaGreatDoor
open Go.Eng
def gb : List Int := [1779033703, 3144134277, 1013904242, 2773480762, 1359893119, 2600822924, 528734635, 1541459225]
def gk : List Int := [1116352408, 1899447441, 3049323471, 3921009573, 961987163, 1508970993, 2453635748, 2870763221, 3624381080, 310598401, 607225278, 1426881987, 1925078388, 2162078206, 2614888103, 3248222580, 3835390401, 4022224774, 264347078, 604807628, 770255983, 1249150122, 1555081692, 1996064986, 2554220882, 2821834349, 2952996808, 3210313671, 3336571891, 3584528711, 113926993, 338241895, 666307205, 773529912, 1294757372, 1396182291, 1695183700, 1986661051, 2177026350, 2456956037, 2730485921, 2820302411, 3259730800, 3345764771, 3516065817, 3600352804, 4094571909, 275423344, 430227734, 506948616, 659060556, 883997877, 958139571, 1322822218, 1537002063, 1747873779, 1955562222, 2024104815, 2227730452, 2361852424, 2428436474, 2756734187, 3204031479, 3329325298]
def gh : List Int := [1, 2, 3, 5, 7, 87, 88, 89]
def hG : HT := rows3 .u32 gb .u32 gk .i32 gh
def xtab : XT := (.node 120 xf120 (.node 56 xf56 (.node 26 xf26 (.node 12 xf12 (.node 8 xf8 (.node 6 xf6 (.node 5 xf5 (.node 3 xf3 .nil .nil) .nil) (.node 7 xf7 .nil .nil)) (.node 10 xf10 (.node 9 xf9 .nil .nil) (.node 11 xf11 .nil .nil))) (.node 22 xf22 (.node 14 xf14 (.node 13 xf13 .nil .nil) (.node 21 xf21 .nil .nil)) (.node 24 xf24 (.node 23 xf23 .nil .nil) (.node 25 xf25 .nil .nil)))) (.node 36 (keysF 2) (.node 32 xf32 (.node 30 xf30 (.node 29 xf29 (.node 28 xf28 .nil .nil) .nil) (.node 31 xf31 .nil .nil)) (.node 34 xf34 (.node 33 xf33 .nil .nil) (.node 35 xf35 .nil .nil))) (.node 40 xf40 (.node 38 xf38 (.node 37 xf37 .nil .nil) (.node 39 xf39 .nil .nil)) (.node 54 xf54 (.node 46 xf46 .nil .nil) (.node 55 xf55 .nil .nil))))) (.node 82 xf82 (.node 72 xf72 (.node 66 xf66 (.node 64 xf64 (.node 63 xf63 (.node 58 xf58 .nil .nil) .nil) (.node 65 xf65 .nil .nil)) (.node 70 xf70 (.node 69 xf69 .nil .nil) (.node 71 xf71 .nil .nil))) (.node 78 xf78 (.node 74 xf74 (.node 73 xf73 .nil .nil) (.node 77 xf77 .nil .nil)) (.node 80 xf80 (.node 79 xf79 .nil .nil) (.node 81 xf81 .nil .nil)))) (.node 105 xf105 (.node 99 xf99 (.node 86 xf86 (.node 85 xf85 .nil .nil) (.node 88 xf88 .nil .nil)) (.node 102 xf102 (.node 101 xf101 .nil .nil) (.node 103 xf103 .nil .nil))) (.node 116 xf116 (.node 107 xf107 (.node 106 xf106 .nil .nil) (.node 109 xf109 .nil .nil)) (.node 118 xf118 (.node 117 xf117 .nil .nil) (.node 119 xf119 .nil .nil)))))) (.node 196 xf196 (.node 161 xf161 (.node 136 xf136 (.node 129 xf129 (.node 124 xf124 (.node 123 xf123 (.node 122 xf122 .nil .nil) .nil) (.node 125 xf125 .nil .nil)) (.node 133 xf133 (.node 130 xf130 .nil .nil) (.node 135 xf135 .nil .nil))) (.node 148 xf148 (.node 139 xf139 (.node 138 xf138 .nil .nil) (.node 147 xf147 .nil .nil)) (.node 155 xf155 (.node 154 xf154 .nil .nil) (.node 160 xf160 .nil .nil)))) (.node 181 xf181 (.node 175 xf175 (.node 171 xf171 (.node 167 xf167 .nil .nil) (.node 174 xf174 .nil .nil)) (.node 179 xf179 (.node 176 xf176 .nil .nil) (.node 180 xf180 .nil .nil))) (.node 185 xf185 (.node 183 xf183 (.node 182 xf182 .nil .nil) (.node 184 xf184 .nil .nil)) (.node 193 xf193 (.node 192 xf192 .nil .nil) (.node 195 xf195 .nil .nil))))) (.node 279 xf279 (.node 224 xf224 (.node 220 xf220 (.node 217 xf217 (.node 216 xf216 (.node 197 xf197 .nil .nil) .nil) (.node 219 xf219 .nil .nil)) (.node 222 xf222 (.node 221 xf221 .nil .nil) (.node 223 xf223 .nil .nil))) (.node 267 xf267 (.node 233 xf233 (.node 227 xf227 .nil .nil) (.node 244 xf244 .nil .nil)) (.node 277 xf277 (.node 276 xf276 .nil .nil) (.node 278 xf278 .nil .nil)))) (.node 323 xf323 (.node 287 xf287 (.node 284 xf284 (.node 283 xf283 .nil .nil) (.node 286 xf286 .nil .nil)) (.node 319 xf319 (.node 288 xf288 .nil .nil) (.node 322 xf322 .nil .nil))) (.node 346 xf346 (.node 343 xf343 (.node 342 xf342 .nil .nil) (.node 344 xf344 .nil .nil)) (.node 361 xf361 (.node 347 xf347 .nil .nil) (.node 363 xf363 .nil .nil)))))))
theorem xtab_ok (w : World) : TabOk Tryz.prog 3 365 w xtab := ⟨.inl okx_120, ⟨.inl okx_56, ⟨.inl okx_26, ⟨.inl okx_12, ⟨.inl okx_8, ⟨.inl okx_6, ⟨.inl okx_5, ⟨.inl okx_3, trivial, trivial⟩, trivial⟩, ⟨.inl okx_7, trivial, trivial⟩⟩, ⟨.inl okx_10, ⟨.inl okx_9, trivial, trivial⟩, ⟨.inl okx_11, trivial, trivial⟩⟩⟩, ⟨.inl okx_22, ⟨.inl okx_14, ⟨.inl okx_13, trivial, trivial⟩, ⟨.inl okx_21, trivial, trivial⟩⟩, ⟨.inl okx_24, ⟨.inl okx_23, trivial, trivial⟩, ⟨.inl okx_25, trivial, trivial⟩⟩⟩⟩, ⟨.inr (.inr ⟨2, rfl, by kernel_rfl, live_keys⟩), ⟨.inl okx_32, ⟨.inl okx_30, ⟨.inl okx_29, ⟨.inl okx_28, trivial, trivial⟩, trivial⟩, ⟨.inl okx_31, trivial, trivial⟩⟩, ⟨.inl okx_34, ⟨.inl okx_33, trivial, trivial⟩, ⟨.inl okx_35, trivial, trivial⟩⟩⟩, ⟨.inl okx_40, ⟨.inl okx_38, ⟨.inl okx_37, trivial, trivial⟩, ⟨.inl okx_39, trivial, trivial⟩⟩, ⟨.inl okx_54, ⟨.inl okx_46, trivial, trivial⟩, ⟨.inl okx_55, trivial, trivial⟩⟩⟩⟩⟩, ⟨.inl okx_82, ⟨.inl okx_72, ⟨.inl okx_66, ⟨.inl okx_64, ⟨.inl okx_63, ⟨.inl okx_58, trivial, trivial⟩, trivial⟩, ⟨.inl okx_65, trivial, trivial⟩⟩, ⟨.inl okx_70, ⟨.inl okx_69, trivial, trivial⟩, ⟨.inl okx_71, trivial, trivial⟩⟩⟩, ⟨.inl okx_78, ⟨.inl okx_74, ⟨.inl okx_73, trivial, trivial⟩, ⟨.inl okx_77, trivial, trivial⟩⟩, ⟨.inl okx_80, ⟨.inl okx_79, trivial, trivial⟩, ⟨.inl okx_81, trivial, trivial⟩⟩⟩⟩, ⟨.inl okx_105, ⟨.inl okx_99, ⟨.inl okx_86, ⟨.inl okx_85, trivial, trivial⟩, ⟨.inl okx_88, trivial, trivial⟩⟩, ⟨.inl okx_102, ⟨.inl okx_101, trivial, trivial⟩, ⟨.inl okx_103, trivial, trivial⟩⟩⟩, ⟨.inl okx_116, ⟨.inl okx_107, ⟨.inl okx_106, trivial, trivial⟩, ⟨.inl okx_109, trivial, trivial⟩⟩, ⟨.inl okx_118, ⟨.inl okx_117, trivial, trivial⟩, ⟨.inl okx_119, trivial, trivial⟩⟩⟩⟩⟩⟩, ⟨.inl okx_196, ⟨.inl okx_161, ⟨.inl okx_136, ⟨.inl okx_129, ⟨.inl okx_124, ⟨.inl okx_123, ⟨.inl okx_122, trivial, trivial⟩, trivial⟩, ⟨.inl okx_125, trivial, trivial⟩⟩, ⟨.inl okx_133, ⟨.inl okx_130, trivial, trivial⟩, ⟨.inl okx_135, trivial, trivial⟩⟩⟩, ⟨.inl okx_148, ⟨.inl okx_139, ⟨.inl okx_138, trivial, trivial⟩, ⟨.inl okx_147, trivial, trivial⟩⟩, ⟨.inl okx_155, ⟨.inl okx_154, trivial, trivial⟩, ⟨.inl okx_160, trivial, trivial⟩⟩⟩⟩, ⟨.inl okx_181, ⟨.inl okx_175, ⟨.inl okx_171, ⟨.inl okx_167, trivial, trivial⟩, ⟨.inl okx_174, trivial, trivial⟩⟩, ⟨.inl okx_179, ⟨.inl okx_176, trivial, trivial⟩, ⟨.inl okx_180, trivial, trivial⟩⟩⟩, ⟨.inl okx_185, ⟨.inl okx_183, ⟨.inl okx_182, trivial, trivial⟩, ⟨.inl okx_184, trivial, trivial⟩⟩, ⟨.inl okx_193, ⟨.inl okx_192, trivial, trivial⟩, ⟨.inl okx_195, trivial, trivial⟩⟩⟩⟩⟩, ⟨.inl okx_279, ⟨.inl okx_224, ⟨.inl okx_220, ⟨.inl okx_217, ⟨.inl okx_216, ⟨.inl okx_197, trivial, trivial⟩, trivial⟩, ⟨.inl okx_219, trivial, trivial⟩⟩, ⟨.inl okx_222, ⟨.inl okx_221, trivial, trivial⟩, ⟨.inl okx_223, trivial, trivial⟩⟩⟩, ⟨.inl okx_267, ⟨.inl okx_233, ⟨.inl okx_227, trivial, trivial⟩, ⟨.inl okx_244, trivial, trivial⟩⟩, ⟨.inl okx_277, ⟨.inl okx_276, trivial, trivial⟩, ⟨.inl okx_278, trivial, trivial⟩⟩⟩⟩, ⟨.inl okx_323, ⟨.inl okx_287, ⟨.inl okx_284, ⟨.inl okx_283, trivial, trivial⟩, ⟨.inl okx_286, trivial, trivial⟩⟩, ⟨.inl okx_319, ⟨.inl okx_288, trivial, trivial⟩, ⟨.inl okx_322, trivial, trivial⟩⟩⟩, ⟨.inl okx_346, ⟨.inl okx_343, ⟨.inl okx_342, trivial, trivial⟩, ⟨.inl okx_344, trivial, trivial⟩⟩, ⟨.inl okx_361, ⟨.inl okx_347, trivial, trivial⟩, ⟨.inl okx_363, trivial, trivial⟩⟩⟩⟩⟩⟩⟩
theorem add_ok : AddOk Tryz.prog 365 := fun x y c w hc => by
  rw [run_callFunc_extern Tryz.func365 (by kernel_rfl) (by kernel_rfl) (by kernel_rfl) (e := add64Entry) (by kernel_rfl), run_add64 x y c (by omega) (by omega) (by omega) (by omega)]
  simp only [Result.andThen]
  congr 5 <;> omega
set_option linter.unusedSimpArgs false in
theorem run_cvb {w : World} {b o n c : Nat} {cs : Array Value} {T : TypeId} (hb : w.heap[b]? = some (.cells cs T (0, 0))) :
    ((Tag.cv 27 27).sem [.slice (some ⟨b, o, none⟩) n c]).run Tryz.prog w = .ok (.slice (some ⟨b, o, none⟩) n c) (put w b (.cells cs T (cs.size, cs.size + 1))) := by
  have hsh : w.shape? b = some (T, cs.size) := by unfold World.shape?; rw [hb]
  have hfr : w.freeze ⟨b, cs.size, none⟩ 1 = put w b (.cells cs T (cs.size, cs.size + 1)) := by
    unfold World.freeze put
    rw [if_neg (by decide)]
    congr 1
    apply Array.ext_getElem?
    intro j
    rw [Array.getElem?_modify, Array.getElem?_setIfInBounds]
    have hlt : b < w.heap.size := blk_lt hb
    split
    · rename_i h; subst h; simp only [hb, Option.map_some, hlt, if_true]; rfl
    · rfl
  simp only [Tag.sem]
  simp [convert, run_underlying Tryz.underlying55, run_underlying Tryz.underlying5, markStringish, hsh, hfr]
def c13 : Cmd :=
  (.seq
   (.set 0 (.const (.bool false)))
  (.seq
   (.seq
    (.row (some 1) 5 3 (.upd 2 1 (.upd 1 1 (.upd 0 1 (.const (.agg #[(.int .u8 0), (.int .u8 0), (.int .u8 0)])) (.const (.int .u8 97))) (.const (.int .u8 98))) (.const (.int .u8 99))) [])
   (.seq
    (.sem (some 2) (.cv 27 27) [(.var 1)] [])
   (.seq
    (.call (some 3) 32 [(.var 2)] [])
   (.seq
    (.call (some 4) 31 [(.var 3)] [])
   (.seq
    (.chk [(.bin .eql (.var 4) (.const (.string ⟨#[98, 97, 55, 56, 49, 54, 98, 102, 56, 102, 48, 49, 99, 102, 101, 97, 52, 49, 52, 49, 52, 48, 100, 101, 53, 100, 97, 101, 50, 50, 50, 51, 98, 48, 48, 51, 54, 49, 97, 51, 57, 54, 49, 55, 55, 97, 57, 99, 98, 52, 49, 48, 102, 102, 54, 49, 102, 50, 48, 48, 49, 53, 97, 100]⟩)))])
   (.set 0 (.bin .eql (.var 4) (.const (.string ⟨#[98, 97, 55, 56, 49, 54, 98, 102, 56, 102, 48, 49, 99, 102, 101, 97, 52, 49, 52, 49, 52, 48, 100, 101, 53, 100, 97, 101, 50, 50, 50, 51, 98, 48, 48, 51, 54, 49, 97, 51, 57, 54, 49, 55, 55, 97, 57, 99, 98, 52, 49, 48, 102, 102, 54, 49, 102, 50, 48, 48, 49, 53, 97, 100]⟩)))))))))
  .ret))
theorem ok13 : compile Tryz.prog Tryz.f10 [0, 1, 2, 3, 4] [] = some (c13, [(.var 0)]) := by kernel_rfl
def abcSum : Value := .agg ⟨[.int .u8 186, .int .u8 120, .int .u8 22, .int .u8 191, .int .u8 143, .int .u8 1, .int .u8 207, .int .u8 234, .int .u8 65, .int .u8 65, .int .u8 64, .int .u8 222, .int .u8 93, .int .u8 174, .int .u8 34, .int .u8 35, .int .u8 176, .int .u8 3, .int .u8 97, .int .u8 163, .int .u8 150, .int .u8 23, .int .u8 122, .int .u8 156, .int .u8 180, .int .u8 16, .int .u8 255, .int .u8 97, .int .u8 242, .int .u8 0, .int .u8 21, .int .u8 173]⟩
def abcHex : Value := .string ⟨#[98, 97, 55, 56, 49, 54, 98, 102, 56, 102, 48, 49, 99, 102, 101, 97, 52, 49, 52, 49, 52, 48, 100, 101, 53, 100, 97, 101, 50, 50, 50, 51, 98, 48, 48, 51, 54, 49, 97, 51, 57, 54, 49, 55, 55, 97, 57, 99, 98, 52, 49, 48, 102, 102, 54, 49, 102, 50, 48, 48, 49, 53, 97, 100]⟩
noncomputable def hAbc : HT := HT.set hG 3 (some (.cells [.int .u8 97, .int .u8 98, .int .u8 99] 0 0))
theorem run_sum : tells abcSum (@xcall sy0 xtab 300 xf32 [.slice (some ⟨3, 0, none⟩) 3 3] hAbc 4 1) = true := by kernel_rfl
theorem run_hex : tells abcHex (@xcall sy0 xtab 300 xf31 [abcSum] hG 3 1) = true := by kernel_rfl
theorem W_chkT {P : Program} {R : Eng.Env → World → Prop} {k : List It} {env : Eng.Env} {w : World} {e : Ex} {v : Value} (he : e.ev env w = some v) (h : W P R k env w) : W P R (.c (.chk [e]) :: k) env w := by
  rw [W_chk]
  simp only [evs, he, Option.bind_some, Ok_some]
  exact h
theorem W_setT {P : Program} {R : Eng.Env → World → Prop} {k : List It} {env : Eng.Env} {w : World} {i : Nat} {e : Ex} {v : Value} (he : e.ev env w = some v) (h : W P R k (env.set i v) w) : W P R (.c (.set i e) :: k) env w := by
  rw [W_set, he, Ok_some]
  exact h
/-- stands tells true. -/
theorem sum_10 (w0 : World) (hb0 : Begin 3 hG w0) : SumOk Tryz.prog w0 10 (sumF (.bool true)) := by
  refine ⟨.bool true, rfl, rfl, by kernel_rfl, fun w hk => ?_⟩
  have hb := hb0.keep hk
  show Ret Tryz.prog 10 [] w _
  refine ret_of_W Tryz.func10 rfl ok13 ?_
  let w1 := w.alloc (.cells #[.int .u8 97, .int .u8 98, .int .u8 99] 5)
  have hp : w1.heap[w.heap.size]? = some (.cells #[.int .u8 97, .int .u8 98, .int .u8 99] 5 (0, 0)) := hp_new w _
  have hcv : ((Tag.cv 27 27).sem [.slice (some ⟨w.heap.size, 0, none⟩) 3 3]).run Tryz.prog w1 = .ok (.slice (some ⟨w.heap.size, 0, none⟩) 3 3) (put w1 w.heap.size (.cells #[.int .u8 97, .int .u8 98, .int .u8 99] 5 (3, 4))) := run_cvb (o := 0) (n := 3) (c := 3) hp
  have k2 : Kept none' w (put w1 w.heap.size (.cells #[.int .u8 97, .int .u8 98, .int .u8 99] 5 (3, 4))) := ((Kept.refl none' w).alloc _).put (fun h => absurd h (by omega)) _
  have hp2 : (put w1 w.heap.size (.cells #[.int .u8 97, .int .u8 98, .int .u8 99] 5 (3, 4))).heap[w.heap.size]? = some (.cells #[.int .u8 97, .int .u8 98, .int .u8 99] 5 (3, 4)) := put_same (blk_lt hp)
  obtain ⟨h', m', s', hr1⟩ := tells_ok run_sum
  obtain ⟨h'', m'', s'', hr2⟩ := tells_ok run_hex
  simp only [c13, W_seq, W_set, W_row, Ex.ev, Option.bind_some, Ok_some]
  refine W_sem (vs := [.slice (some ⟨w.heap.size, 0, none⟩) 3 3]) (by rfl) hcv (stab_nil _ _ _) ?_
  have hb2 := hb.keep k2
  obtain ⟨ρ, hs, hD, hσ⟩ := @hs_row sy0 _ _ _ hb2 w.heap.size _ _ _ hp2 hb.size (by decide) trivial
  have c40 := @xcall_ok sy0 _ 3 365 _ xtab add_ok (xtab_ok (put w1 w.heap.size (.cells #[.int .u8 97, .int .u8 98, .int .u8 99] 5 (3, 4)))) 300 32 xf32 _ _ _ _ _ _ _ _ (by kernel_rfl) hr1 ρ _ [.slice (some ⟨w.heap.size, 0, none⟩) 3 3] hs (by
    refine ⟨rfl, fun i u v hu hv => ?_⟩
    cases i with
    | zero =>
      obtain rfl := Option.some.inj hu
      obtain rfl := Option.some.inj hv
      have := @VQ.slice sy0 ρ 3 0 none 3 3 hD (by decide)
      rw [hσ] at this
      exact this
    | succ i => cases hu)
  rw [W_seq]
  refine W_call0 (vs := [.slice (some ⟨w.heap.size, 0, none⟩) 3 3]) (by rfl) c40 fun v w3 hv => ?_
  obtain ⟨ρ3, q1, q2, _⟩ := hv
  obtain rfl := @vq_aggp sy0 _ _ (by rfl) v q1
  have hb3 := hb2.keep q2.kept
  have c39 := @ret_of_x sy0 Tryz.prog 3 365 xtab add_ok hG w3 (xtab_ok w3) hb3 31 xf31 [abcSum] 300 _ _ _ _ (by kernel_rfl) (fun x hx => by rw [List.mem_singleton.1 hx]; rfl) hr2 trivial
  rw [W_seq]
  refine W_call0 (vs := [abcSum]) (by rfl) c39 fun v w4 hv => ?_
  obtain ⟨k4, ρ4, q3, _⟩ := hv
  obtain rfl := @vq_string_r sy0 _ _ _ q3
  have e : ∀ env : Env, env[4]? = some abcHex → (Ex.bin .eql (.var 4) (.const abcHex)).ev env w4 = some (.bool true) := fun env h => by
    simp only [Ex.ev, h, Option.bind_some]
    rfl
  have e1 := e (setO (some 4) (setO (some 3) (setO (some 2) (setO (some 1) (List.set (env0 [0, 1, 2, 3, 4] []) 0 (.bool false)) (.slice (some ⟨w.heap.size, 0, none⟩) 3 3)) (.slice (some ⟨w.heap.size, 0, none⟩) 3 3)) abcSum) abcHex) rfl
  rw [W_seq]
  refine W_chkT e1 (W_setT e1 ?_)
  simp only [W_ret, Fin_eq]
  exact ⟨rfl, k2.trans (q2.kept.trans k4)⟩
theorem sum_11 (w : World) (hb : Begin 3 hG w) : SumOk Tryz.prog w 11 (sumF (.bool true)) :=
  sum_of_x add_ok (fun w' _ => xtab_ok w') hb (n := 300) (F := xf11) (by kernel_rfl) (by kernel_rfl) (by kernel_rfl) rfl
def xtabS : XT := (.node 120 xf120 (.node 56 xf56 (.node 26 xf26 (.node 12 xf12 (.node 8 xf8 (.node 6 xf6 (.node 5 xf5 (.node 3 xf3 .nil .nil) .nil) (.node 7 xf7 .nil .nil)) (.node 10 (sumF (.bool true)) (.node 9 xf9 .nil .nil) (.node 11 (sumF (.bool true)) .nil .nil))) (.node 22 xf22 (.node 14 xf14 (.node 13 xf13 .nil .nil) (.node 21 xf21 .nil .nil)) (.node 24 xf24 (.node 23 xf23 .nil .nil) (.node 25 xf25 .nil .nil)))) (.node 36 (keysF 2) (.node 32 xf32 (.node 30 xf30 (.node 29 xf29 (.node 28 xf28 .nil .nil) .nil) (.node 31 xf31 .nil .nil)) (.node 34 xf34 (.node 33 xf33 .nil .nil) (.node 35 xf35 .nil .nil))) (.node 40 xf40 (.node 38 xf38 (.node 37 xf37 .nil .nil) (.node 39 xf39 .nil .nil)) (.node 54 xf54 (.node 46 xf46 .nil .nil) (.node 55 xf55 .nil .nil))))) (.node 82 xf82 (.node 72 xf72 (.node 66 xf66 (.node 64 xf64 (.node 63 xf63 (.node 58 xf58 .nil .nil) .nil) (.node 65 xf65 .nil .nil)) (.node 70 xf70 (.node 69 xf69 .nil .nil) (.node 71 xf71 .nil .nil))) (.node 78 xf78 (.node 74 xf74 (.node 73 xf73 .nil .nil) (.node 77 xf77 .nil .nil)) (.node 80 xf80 (.node 79 xf79 .nil .nil) (.node 81 xf81 .nil .nil)))) (.node 105 xf105 (.node 99 xf99 (.node 86 xf86 (.node 85 xf85 .nil .nil) (.node 88 xf88 .nil .nil)) (.node 102 xf102 (.node 101 xf101 .nil .nil) (.node 103 xf103 .nil .nil))) (.node 116 xf116 (.node 107 xf107 (.node 106 xf106 .nil .nil) (.node 109 xf109 .nil .nil)) (.node 118 xf118 (.node 117 xf117 .nil .nil) (.node 119 xf119 .nil .nil)))))) (.node 196 xf196 (.node 161 xf161 (.node 136 xf136 (.node 129 xf129 (.node 124 xf124 (.node 123 xf123 (.node 122 xf122 .nil .nil) .nil) (.node 125 xf125 .nil .nil)) (.node 133 xf133 (.node 130 xf130 .nil .nil) (.node 135 xf135 .nil .nil))) (.node 148 xf148 (.node 139 xf139 (.node 138 xf138 .nil .nil) (.node 147 xf147 .nil .nil)) (.node 155 xf155 (.node 154 xf154 .nil .nil) (.node 160 xf160 .nil .nil)))) (.node 181 xf181 (.node 175 xf175 (.node 171 xf171 (.node 167 xf167 .nil .nil) (.node 174 xf174 .nil .nil)) (.node 179 xf179 (.node 176 xf176 .nil .nil) (.node 180 xf180 .nil .nil))) (.node 185 xf185 (.node 183 xf183 (.node 182 xf182 .nil .nil) (.node 184 xf184 .nil .nil)) (.node 193 xf193 (.node 192 xf192 .nil .nil) (.node 195 xf195 .nil .nil))))) (.node 279 xf279 (.node 224 xf224 (.node 220 xf220 (.node 217 xf217 (.node 216 xf216 (.node 197 xf197 .nil .nil) .nil) (.node 219 xf219 .nil .nil)) (.node 222 xf222 (.node 221 xf221 .nil .nil) (.node 223 xf223 .nil .nil))) (.node 267 xf267 (.node 233 xf233 (.node 227 xf227 .nil .nil) (.node 244 xf244 .nil .nil)) (.node 277 xf277 (.node 276 xf276 .nil .nil) (.node 278 xf278 .nil .nil)))) (.node 323 xf323 (.node 287 xf287 (.node 284 xf284 (.node 283 xf283 .nil .nil) (.node 286 xf286 .nil .nil)) (.node 319 xf319 (.node 288 xf288 .nil .nil) (.node 322 xf322 .nil .nil))) (.node 346 xf346 (.node 343 xf343 (.node 342 xf342 .nil .nil) (.node 344 xf344 .nil .nil)) (.node 361 xf361 (.node 347 xf347 .nil .nil) (.node 363 xf363 .nil .nil)))))))
theorem xtabS_ok (w : World) (hb : Begin 3 hG w) : TabOk Tryz.prog 3 365 w xtabS := ⟨.inl okx_120, ⟨.inl okx_56, ⟨.inl okx_26, ⟨.inl okx_12, ⟨.inl okx_8, ⟨.inl okx_6, ⟨.inl okx_5, ⟨.inl okx_3, trivial, trivial⟩, trivial⟩, ⟨.inl okx_7, trivial, trivial⟩⟩, ⟨.inr (.inl (sum_10 w hb)), ⟨.inl okx_9, trivial, trivial⟩, ⟨.inr (.inl (sum_11 w hb)), trivial, trivial⟩⟩⟩, ⟨.inl okx_22, ⟨.inl okx_14, ⟨.inl okx_13, trivial, trivial⟩, ⟨.inl okx_21, trivial, trivial⟩⟩, ⟨.inl okx_24, ⟨.inl okx_23, trivial, trivial⟩, ⟨.inl okx_25, trivial, trivial⟩⟩⟩⟩, ⟨.inr (.inr ⟨2, rfl, by kernel_rfl, live_keys⟩), ⟨.inl okx_32, ⟨.inl okx_30, ⟨.inl okx_29, ⟨.inl okx_28, trivial, trivial⟩, trivial⟩, ⟨.inl okx_31, trivial, trivial⟩⟩, ⟨.inl okx_34, ⟨.inl okx_33, trivial, trivial⟩, ⟨.inl okx_35, trivial, trivial⟩⟩⟩, ⟨.inl okx_40, ⟨.inl okx_38, ⟨.inl okx_37, trivial, trivial⟩, ⟨.inl okx_39, trivial, trivial⟩⟩, ⟨.inl okx_54, ⟨.inl okx_46, trivial, trivial⟩, ⟨.inl okx_55, trivial, trivial⟩⟩⟩⟩⟩, ⟨.inl okx_82, ⟨.inl okx_72, ⟨.inl okx_66, ⟨.inl okx_64, ⟨.inl okx_63, ⟨.inl okx_58, trivial, trivial⟩, trivial⟩, ⟨.inl okx_65, trivial, trivial⟩⟩, ⟨.inl okx_70, ⟨.inl okx_69, trivial, trivial⟩, ⟨.inl okx_71, trivial, trivial⟩⟩⟩, ⟨.inl okx_78, ⟨.inl okx_74, ⟨.inl okx_73, trivial, trivial⟩, ⟨.inl okx_77, trivial, trivial⟩⟩, ⟨.inl okx_80, ⟨.inl okx_79, trivial, trivial⟩, ⟨.inl okx_81, trivial, trivial⟩⟩⟩⟩, ⟨.inl okx_105, ⟨.inl okx_99, ⟨.inl okx_86, ⟨.inl okx_85, trivial, trivial⟩, ⟨.inl okx_88, trivial, trivial⟩⟩, ⟨.inl okx_102, ⟨.inl okx_101, trivial, trivial⟩, ⟨.inl okx_103, trivial, trivial⟩⟩⟩, ⟨.inl okx_116, ⟨.inl okx_107, ⟨.inl okx_106, trivial, trivial⟩, ⟨.inl okx_109, trivial, trivial⟩⟩, ⟨.inl okx_118, ⟨.inl okx_117, trivial, trivial⟩, ⟨.inl okx_119, trivial, trivial⟩⟩⟩⟩⟩⟩, ⟨.inl okx_196, ⟨.inl okx_161, ⟨.inl okx_136, ⟨.inl okx_129, ⟨.inl okx_124, ⟨.inl okx_123, ⟨.inl okx_122, trivial, trivial⟩, trivial⟩, ⟨.inl okx_125, trivial, trivial⟩⟩, ⟨.inl okx_133, ⟨.inl okx_130, trivial, trivial⟩, ⟨.inl okx_135, trivial, trivial⟩⟩⟩, ⟨.inl okx_148, ⟨.inl okx_139, ⟨.inl okx_138, trivial, trivial⟩, ⟨.inl okx_147, trivial, trivial⟩⟩, ⟨.inl okx_155, ⟨.inl okx_154, trivial, trivial⟩, ⟨.inl okx_160, trivial, trivial⟩⟩⟩⟩, ⟨.inl okx_181, ⟨.inl okx_175, ⟨.inl okx_171, ⟨.inl okx_167, trivial, trivial⟩, ⟨.inl okx_174, trivial, trivial⟩⟩, ⟨.inl okx_179, ⟨.inl okx_176, trivial, trivial⟩, ⟨.inl okx_180, trivial, trivial⟩⟩⟩, ⟨.inl okx_185, ⟨.inl okx_183, ⟨.inl okx_182, trivial, trivial⟩, ⟨.inl okx_184, trivial, trivial⟩⟩, ⟨.inl okx_193, ⟨.inl okx_192, trivial, trivial⟩, ⟨.inl okx_195, trivial, trivial⟩⟩⟩⟩⟩, ⟨.inl okx_279, ⟨.inl okx_224, ⟨.inl okx_220, ⟨.inl okx_217, ⟨.inl okx_216, ⟨.inl okx_197, trivial, trivial⟩, trivial⟩, ⟨.inl okx_219, trivial, trivial⟩⟩, ⟨.inl okx_222, ⟨.inl okx_221, trivial, trivial⟩, ⟨.inl okx_223, trivial, trivial⟩⟩⟩, ⟨.inl okx_267, ⟨.inl okx_233, ⟨.inl okx_227, trivial, trivial⟩, ⟨.inl okx_244, trivial, trivial⟩⟩, ⟨.inl okx_277, ⟨.inl okx_276, trivial, trivial⟩, ⟨.inl okx_278, trivial, trivial⟩⟩⟩⟩, ⟨.inl okx_323, ⟨.inl okx_287, ⟨.inl okx_284, ⟨.inl okx_283, trivial, trivial⟩, ⟨.inl okx_286, trivial, trivial⟩⟩, ⟨.inl okx_319, ⟨.inl okx_288, trivial, trivial⟩, ⟨.inl okx_322, trivial, trivial⟩⟩⟩, ⟨.inl okx_346, ⟨.inl okx_343, ⟨.inl okx_342, trivial, trivial⟩, ⟨.inl okx_344, trivial, trivial⟩⟩, ⟨.inl okx_361, ⟨.inl okx_347, trivial, trivial⟩, ⟨.inl okx_363, trivial, trivial⟩⟩⟩⟩⟩⟩⟩
end Go.Proofs.YtipfkfecelkhnaaGreatDoor
