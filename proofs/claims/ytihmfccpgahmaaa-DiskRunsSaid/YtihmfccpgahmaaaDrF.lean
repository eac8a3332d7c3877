/- The law DiskRuns: its frame; what is wanted, walked. No conditions beyond those that are named. -/
import Derived.Test.YtihmfccpgahmaaaDrL
namespace Go.Proofs.Ytihmfccpgahmaaa.Dk
open Go Go.RowKit Go.Proofs.YtihmfccpgahmaaaW.PrintWords Go.Proofs.YtihmfccpgahmaaaW.PrintMore Go.Proofs.YtihmfccpgahmaaaW.PrintLast Go.Proofs.Ytihmfccpgahmaaa.Str
set_option linter.unusedVariables false
set_option linter.unusedSimpArgs false
namespace DiskRuns
def cl : Code → Code
  | .seq a _ => a
  | .cond _ a _ => a
  | .block _ b => b
  | .loop b => b
  | c => c
def cr : Code → Code
  | .seq _ b => b
  | .cond _ _ b => b
  | c => c
def crn : Nat → Code → Code
  | 0, c => c
  | n + 1, c => crn n (cr c)
def roundC (F : Func) : Code := cl (cl (cr (cl (crn 10 (F.body.getD .skip)))))
def blk1C (F : Func) : Code := cl (cl (cr (roundC F)))
def wantC (F : Func) : Code := cl (crn 4 (blk1C F))
def lawC (F : Func) : Code := cl (crn 5 (blk1C F))
def doC (F : Func) : Code := cr (cl (crn 6 (blk1C F)))
def endC (F : Func) : Code := crn 7 (blk1C F)
theorem useK {P : Program} {c : Code} {Q : Exit → Act → World → Prop} {K : Act → World → Prop} (hK : ∀ a w, Code.wp P c Q a w → K a w) {a : Act} {w : World} (h : Code.wp P c Q a w) : K a w := hK a w h
set_option maxRecDepth 100000 in
theorem arr341 (A : Array Value) (h : A.size = 341) : A = #[A.getD 0 undef, A.getD 1 undef, A.getD 2 undef, A.getD 3 undef, A.getD 4 undef, A.getD 5 undef, A.getD 6 undef, A.getD 7 undef, A.getD 8 undef, A.getD 9 undef, A.getD 10 undef, A.getD 11 undef, A.getD 12 undef, A.getD 13 undef, A.getD 14 undef, A.getD 15 undef, A.getD 16 undef, A.getD 17 undef, A.getD 18 undef, A.getD 19 undef, A.getD 20 undef, A.getD 21 undef, A.getD 22 undef, A.getD 23 undef, A.getD 24 undef, A.getD 25 undef, A.getD 26 undef, A.getD 27 undef, A.getD 28 undef, A.getD 29 undef, A.getD 30 undef, A.getD 31 undef, A.getD 32 undef, A.getD 33 undef, A.getD 34 undef, A.getD 35 undef, A.getD 36 undef, A.getD 37 undef, A.getD 38 undef, A.getD 39 undef, A.getD 40 undef, A.getD 41 undef, A.getD 42 undef, A.getD 43 undef, A.getD 44 undef, A.getD 45 undef, A.getD 46 undef, A.getD 47 undef, A.getD 48 undef, A.getD 49 undef, A.getD 50 undef, A.getD 51 undef, A.getD 52 undef, A.getD 53 undef, A.getD 54 undef, A.getD 55 undef, A.getD 56 undef, A.getD 57 undef, A.getD 58 undef, A.getD 59 undef, A.getD 60 undef, A.getD 61 undef, A.getD 62 undef, A.getD 63 undef, A.getD 64 undef, A.getD 65 undef, A.getD 66 undef, A.getD 67 undef, A.getD 68 undef, A.getD 69 undef, A.getD 70 undef, A.getD 71 undef, A.getD 72 undef, A.getD 73 undef, A.getD 74 undef, A.getD 75 undef, A.getD 76 undef, A.getD 77 undef, A.getD 78 undef, A.getD 79 undef, A.getD 80 undef, A.getD 81 undef, A.getD 82 undef, A.getD 83 undef, A.getD 84 undef, A.getD 85 undef, A.getD 86 undef, A.getD 87 undef, A.getD 88 undef, A.getD 89 undef, A.getD 90 undef, A.getD 91 undef, A.getD 92 undef, A.getD 93 undef, A.getD 94 undef, A.getD 95 undef, A.getD 96 undef, A.getD 97 undef, A.getD 98 undef, A.getD 99 undef, A.getD 100 undef, A.getD 101 undef, A.getD 102 undef, A.getD 103 undef, A.getD 104 undef, A.getD 105 undef, A.getD 106 undef, A.getD 107 undef, A.getD 108 undef, A.getD 109 undef, A.getD 110 undef, A.getD 111 undef, A.getD 112 undef, A.getD 113 undef, A.getD 114 undef, A.getD 115 undef, A.getD 116 undef, A.getD 117 undef, A.getD 118 undef, A.getD 119 undef, A.getD 120 undef, A.getD 121 undef, A.getD 122 undef, A.getD 123 undef, A.getD 124 undef, A.getD 125 undef, A.getD 126 undef, A.getD 127 undef, A.getD 128 undef, A.getD 129 undef, A.getD 130 undef, A.getD 131 undef, A.getD 132 undef, A.getD 133 undef, A.getD 134 undef, A.getD 135 undef, A.getD 136 undef, A.getD 137 undef, A.getD 138 undef, A.getD 139 undef, A.getD 140 undef, A.getD 141 undef, A.getD 142 undef, A.getD 143 undef, A.getD 144 undef, A.getD 145 undef, A.getD 146 undef, A.getD 147 undef, A.getD 148 undef, A.getD 149 undef, A.getD 150 undef, A.getD 151 undef, A.getD 152 undef, A.getD 153 undef, A.getD 154 undef, A.getD 155 undef, A.getD 156 undef, A.getD 157 undef, A.getD 158 undef, A.getD 159 undef, A.getD 160 undef, A.getD 161 undef, A.getD 162 undef, A.getD 163 undef, A.getD 164 undef, A.getD 165 undef, A.getD 166 undef, A.getD 167 undef, A.getD 168 undef, A.getD 169 undef, A.getD 170 undef, A.getD 171 undef, A.getD 172 undef, A.getD 173 undef, A.getD 174 undef, A.getD 175 undef, A.getD 176 undef, A.getD 177 undef, A.getD 178 undef, A.getD 179 undef, A.getD 180 undef, A.getD 181 undef, A.getD 182 undef, A.getD 183 undef, A.getD 184 undef, A.getD 185 undef, A.getD 186 undef, A.getD 187 undef, A.getD 188 undef, A.getD 189 undef, A.getD 190 undef, A.getD 191 undef, A.getD 192 undef, A.getD 193 undef, A.getD 194 undef, A.getD 195 undef, A.getD 196 undef, A.getD 197 undef, A.getD 198 undef, A.getD 199 undef, A.getD 200 undef, A.getD 201 undef, A.getD 202 undef, A.getD 203 undef, A.getD 204 undef, A.getD 205 undef, A.getD 206 undef, A.getD 207 undef, A.getD 208 undef, A.getD 209 undef, A.getD 210 undef, A.getD 211 undef, A.getD 212 undef, A.getD 213 undef, A.getD 214 undef, A.getD 215 undef, A.getD 216 undef, A.getD 217 undef, A.getD 218 undef, A.getD 219 undef, A.getD 220 undef, A.getD 221 undef, A.getD 222 undef, A.getD 223 undef, A.getD 224 undef, A.getD 225 undef, A.getD 226 undef, A.getD 227 undef, A.getD 228 undef, A.getD 229 undef, A.getD 230 undef, A.getD 231 undef, A.getD 232 undef, A.getD 233 undef, A.getD 234 undef, A.getD 235 undef, A.getD 236 undef, A.getD 237 undef, A.getD 238 undef, A.getD 239 undef, A.getD 240 undef, A.getD 241 undef, A.getD 242 undef, A.getD 243 undef, A.getD 244 undef, A.getD 245 undef, A.getD 246 undef, A.getD 247 undef, A.getD 248 undef, A.getD 249 undef, A.getD 250 undef, A.getD 251 undef, A.getD 252 undef, A.getD 253 undef, A.getD 254 undef, A.getD 255 undef, A.getD 256 undef, A.getD 257 undef, A.getD 258 undef, A.getD 259 undef, A.getD 260 undef, A.getD 261 undef, A.getD 262 undef, A.getD 263 undef, A.getD 264 undef, A.getD 265 undef, A.getD 266 undef, A.getD 267 undef, A.getD 268 undef, A.getD 269 undef, A.getD 270 undef, A.getD 271 undef, A.getD 272 undef, A.getD 273 undef, A.getD 274 undef, A.getD 275 undef, A.getD 276 undef, A.getD 277 undef, A.getD 278 undef, A.getD 279 undef, A.getD 280 undef, A.getD 281 undef, A.getD 282 undef, A.getD 283 undef, A.getD 284 undef, A.getD 285 undef, A.getD 286 undef, A.getD 287 undef, A.getD 288 undef, A.getD 289 undef, A.getD 290 undef, A.getD 291 undef, A.getD 292 undef, A.getD 293 undef, A.getD 294 undef, A.getD 295 undef, A.getD 296 undef, A.getD 297 undef, A.getD 298 undef, A.getD 299 undef, A.getD 300 undef, A.getD 301 undef, A.getD 302 undef, A.getD 303 undef, A.getD 304 undef, A.getD 305 undef, A.getD 306 undef, A.getD 307 undef, A.getD 308 undef, A.getD 309 undef, A.getD 310 undef, A.getD 311 undef, A.getD 312 undef, A.getD 313 undef, A.getD 314 undef, A.getD 315 undef, A.getD 316 undef, A.getD 317 undef, A.getD 318 undef, A.getD 319 undef, A.getD 320 undef, A.getD 321 undef, A.getD 322 undef, A.getD 323 undef, A.getD 324 undef, A.getD 325 undef, A.getD 326 undef, A.getD 327 undef, A.getD 328 undef, A.getD 329 undef, A.getD 330 undef, A.getD 331 undef, A.getD 332 undef, A.getD 333 undef, A.getD 334 undef, A.getD 335 undef, A.getD 336 undef, A.getD 337 undef, A.getD 338 undef, A.getD 339 undef, A.getD 340 undef] := by
  have e : A.toList = (List.range 341).map fun k => A.getD k undef := by
    apply List.ext_getElem
    · rw [List.length_map, List.length_range, Array.length_toList, h]
    · intro i h1 h2
      have hi : i < A.size := by rw [Array.length_toList] at h1; exact h1
      rw [List.getElem_map, List.getElem_range, Array.getElem_toList]
      simp [Array.getD, hi]
  exact Array.toList_inj.1 (e.trans rfl)
structure Fr (A : Array Value) (n : Nat) (vo : Value) (g : Nat) (v6 v7 v8 : Value) (fuse : Int) (down : Bool) (steps : Int) (k : Nat) (v13 v14 v15 : Value) : Prop where
  s : A.size = 341
  e0 : A.getD 0 undef = .int .i64 n
  e1 : A.getD 1 undef = vo
  e5 : A.getD 5 undef = .pointer (some ⟨g, 0, none⟩)
  e6 : A.getD 6 undef = v6
  e7 : A.getD 7 undef = v7
  e8 : A.getD 8 undef = v8
  e9 : A.getD 9 undef = .int .i64 fuse
  e10 : A.getD 10 undef = .bool down
  e11 : A.getD 11 undef = .int .i64 steps
  e12 : A.getD 12 undef = .int .i64 k
  e13 : A.getD 13 undef = v13
  e14 : A.getD 14 undef = v14
  e15 : A.getD 15 undef = v15
section
variable {n : Nat} {vo : Value} {g : Nat} {v6 v7 v8 : Value} {fuse : Int} {down : Bool} {steps : Int} {k : Nat} {v13 v14 v15 : Value}
set_option maxRecDepth 100000 in
theorem Fr.lit {A : Array Value} (h : Fr A n vo g v6 v7 v8 fuse down steps k v13 v14 v15) : A = #[.int .i64 n, vo, A.getD 2 undef, A.getD 3 undef, A.getD 4 undef, .pointer (some ⟨g, 0, none⟩), v6, v7, v8, .int .i64 fuse, .bool down, .int .i64 steps, .int .i64 k, v13, v14, v15, A.getD 16 undef, A.getD 17 undef, A.getD 18 undef, A.getD 19 undef, A.getD 20 undef, A.getD 21 undef, A.getD 22 undef, A.getD 23 undef, A.getD 24 undef, A.getD 25 undef, A.getD 26 undef, A.getD 27 undef, A.getD 28 undef, A.getD 29 undef, A.getD 30 undef, A.getD 31 undef, A.getD 32 undef, A.getD 33 undef, A.getD 34 undef, A.getD 35 undef, A.getD 36 undef, A.getD 37 undef, A.getD 38 undef, A.getD 39 undef, A.getD 40 undef, A.getD 41 undef, A.getD 42 undef, A.getD 43 undef, A.getD 44 undef, A.getD 45 undef, A.getD 46 undef, A.getD 47 undef, A.getD 48 undef, A.getD 49 undef, A.getD 50 undef, A.getD 51 undef, A.getD 52 undef, A.getD 53 undef, A.getD 54 undef, A.getD 55 undef, A.getD 56 undef, A.getD 57 undef, A.getD 58 undef, A.getD 59 undef, A.getD 60 undef, A.getD 61 undef, A.getD 62 undef, A.getD 63 undef, A.getD 64 undef, A.getD 65 undef, A.getD 66 undef, A.getD 67 undef, A.getD 68 undef, A.getD 69 undef, A.getD 70 undef, A.getD 71 undef, A.getD 72 undef, A.getD 73 undef, A.getD 74 undef, A.getD 75 undef, A.getD 76 undef, A.getD 77 undef, A.getD 78 undef, A.getD 79 undef, A.getD 80 undef, A.getD 81 undef, A.getD 82 undef, A.getD 83 undef, A.getD 84 undef, A.getD 85 undef, A.getD 86 undef, A.getD 87 undef, A.getD 88 undef, A.getD 89 undef, A.getD 90 undef, A.getD 91 undef, A.getD 92 undef, A.getD 93 undef, A.getD 94 undef, A.getD 95 undef, A.getD 96 undef, A.getD 97 undef, A.getD 98 undef, A.getD 99 undef, A.getD 100 undef, A.getD 101 undef, A.getD 102 undef, A.getD 103 undef, A.getD 104 undef, A.getD 105 undef, A.getD 106 undef, A.getD 107 undef, A.getD 108 undef, A.getD 109 undef, A.getD 110 undef, A.getD 111 undef, A.getD 112 undef, A.getD 113 undef, A.getD 114 undef, A.getD 115 undef, A.getD 116 undef, A.getD 117 undef, A.getD 118 undef, A.getD 119 undef, A.getD 120 undef, A.getD 121 undef, A.getD 122 undef, A.getD 123 undef, A.getD 124 undef, A.getD 125 undef, A.getD 126 undef, A.getD 127 undef, A.getD 128 undef, A.getD 129 undef, A.getD 130 undef, A.getD 131 undef, A.getD 132 undef, A.getD 133 undef, A.getD 134 undef, A.getD 135 undef, A.getD 136 undef, A.getD 137 undef, A.getD 138 undef, A.getD 139 undef, A.getD 140 undef, A.getD 141 undef, A.getD 142 undef, A.getD 143 undef, A.getD 144 undef, A.getD 145 undef, A.getD 146 undef, A.getD 147 undef, A.getD 148 undef, A.getD 149 undef, A.getD 150 undef, A.getD 151 undef, A.getD 152 undef, A.getD 153 undef, A.getD 154 undef, A.getD 155 undef, A.getD 156 undef, A.getD 157 undef, A.getD 158 undef, A.getD 159 undef, A.getD 160 undef, A.getD 161 undef, A.getD 162 undef, A.getD 163 undef, A.getD 164 undef, A.getD 165 undef, A.getD 166 undef, A.getD 167 undef, A.getD 168 undef, A.getD 169 undef, A.getD 170 undef, A.getD 171 undef, A.getD 172 undef, A.getD 173 undef, A.getD 174 undef, A.getD 175 undef, A.getD 176 undef, A.getD 177 undef, A.getD 178 undef, A.getD 179 undef, A.getD 180 undef, A.getD 181 undef, A.getD 182 undef, A.getD 183 undef, A.getD 184 undef, A.getD 185 undef, A.getD 186 undef, A.getD 187 undef, A.getD 188 undef, A.getD 189 undef, A.getD 190 undef, A.getD 191 undef, A.getD 192 undef, A.getD 193 undef, A.getD 194 undef, A.getD 195 undef, A.getD 196 undef, A.getD 197 undef, A.getD 198 undef, A.getD 199 undef, A.getD 200 undef, A.getD 201 undef, A.getD 202 undef, A.getD 203 undef, A.getD 204 undef, A.getD 205 undef, A.getD 206 undef, A.getD 207 undef, A.getD 208 undef, A.getD 209 undef, A.getD 210 undef, A.getD 211 undef, A.getD 212 undef, A.getD 213 undef, A.getD 214 undef, A.getD 215 undef, A.getD 216 undef, A.getD 217 undef, A.getD 218 undef, A.getD 219 undef, A.getD 220 undef, A.getD 221 undef, A.getD 222 undef, A.getD 223 undef, A.getD 224 undef, A.getD 225 undef, A.getD 226 undef, A.getD 227 undef, A.getD 228 undef, A.getD 229 undef, A.getD 230 undef, A.getD 231 undef, A.getD 232 undef, A.getD 233 undef, A.getD 234 undef, A.getD 235 undef, A.getD 236 undef, A.getD 237 undef, A.getD 238 undef, A.getD 239 undef, A.getD 240 undef, A.getD 241 undef, A.getD 242 undef, A.getD 243 undef, A.getD 244 undef, A.getD 245 undef, A.getD 246 undef, A.getD 247 undef, A.getD 248 undef, A.getD 249 undef, A.getD 250 undef, A.getD 251 undef, A.getD 252 undef, A.getD 253 undef, A.getD 254 undef, A.getD 255 undef, A.getD 256 undef, A.getD 257 undef, A.getD 258 undef, A.getD 259 undef, A.getD 260 undef, A.getD 261 undef, A.getD 262 undef, A.getD 263 undef, A.getD 264 undef, A.getD 265 undef, A.getD 266 undef, A.getD 267 undef, A.getD 268 undef, A.getD 269 undef, A.getD 270 undef, A.getD 271 undef, A.getD 272 undef, A.getD 273 undef, A.getD 274 undef, A.getD 275 undef, A.getD 276 undef, A.getD 277 undef, A.getD 278 undef, A.getD 279 undef, A.getD 280 undef, A.getD 281 undef, A.getD 282 undef, A.getD 283 undef, A.getD 284 undef, A.getD 285 undef, A.getD 286 undef, A.getD 287 undef, A.getD 288 undef, A.getD 289 undef, A.getD 290 undef, A.getD 291 undef, A.getD 292 undef, A.getD 293 undef, A.getD 294 undef, A.getD 295 undef, A.getD 296 undef, A.getD 297 undef, A.getD 298 undef, A.getD 299 undef, A.getD 300 undef, A.getD 301 undef, A.getD 302 undef, A.getD 303 undef, A.getD 304 undef, A.getD 305 undef, A.getD 306 undef, A.getD 307 undef, A.getD 308 undef, A.getD 309 undef, A.getD 310 undef, A.getD 311 undef, A.getD 312 undef, A.getD 313 undef, A.getD 314 undef, A.getD 315 undef, A.getD 316 undef, A.getD 317 undef, A.getD 318 undef, A.getD 319 undef, A.getD 320 undef, A.getD 321 undef, A.getD 322 undef, A.getD 323 undef, A.getD 324 undef, A.getD 325 undef, A.getD 326 undef, A.getD 327 undef, A.getD 328 undef, A.getD 329 undef, A.getD 330 undef, A.getD 331 undef, A.getD 332 undef, A.getD 333 undef, A.getD 334 undef, A.getD 335 undef, A.getD 336 undef, A.getD 337 undef, A.getD 338 undef, A.getD 339 undef, A.getD 340 undef] := by
  conv => lhs; rw [arr341 A h.s, h.e0, h.e1, h.e5, h.e6, h.e7, h.e8, h.e9, h.e10, h.e11, h.e12, h.e13, h.e14, h.e15]
end
/-- What the law wants, ahead of the fuse. -/
def wantF (M : DA) (o : OpV) (inn : Bool) : Int :=
  if (o.k = 0 ∧ (inn = false ∨ 512 < o.b.length)) ∨ (o.k = 1 ∧ inn = false) then 1 else if (0 ≤ o.k ∧ o.k ≤ 2) ∧ M.down = true then 8 else if o.k = 1 ∧ rdOf false M.torn o.at_ = true then 9 else 0
section
variable {w W wx : World} {S S' : Nat → Prop} {n k g KB : Nat} {vo v6 v7 v8 v15 : Value} {fuse : Int} {down : Bool} {steps : Int} {M : DA} {o : OpV} {A : Array Value} {bA kA : Option Addr} {bc kc : Nat} {inn : Bool}
set_option maxRecDepth 100000 in
set_option maxHeartbeats 8000000 in
theorem want_ok (HF : Fr A n vo g v6 v7 v8 fuse down steps k (.pointer (some ⟨KB, 0, none⟩)) (.bool inn) (.int .i64 0)) (HL : LR w wx S v6 v7 v8 fuse down steps M) (hn : M.now.length = n)
    (HB : wx.heap[KB]? = some (.cells #[.int .i64 o.k, .int .i64 o.at_, .slice bA o.b.length bc, .slice kA o.keep.length kc, .int .i64 o.tear] 36 (0, 0))) (hin : inn = decide (0 ≤ o.at_ ∧ o.at_ < n))
    (Q : Exit → Act → World → Prop) (hQ : ∀ A', Fr A' n vo g v6 v7 v8 fuse down steps k (.pointer (some ⟨KB, 0, none⟩)) (.bool inn) (.int .i64 (wantF M o inn)) → Q .normal ⟨A', []⟩ wx) : Code.wp Try.prog (wantC Try.f7) Q ⟨A, []⟩ wx := by
  have y0 : wx.cell? ⟨KB, 0, none⟩ = some (.int .i64 o.k) := (blk_cell HB 0).trans rfl
  have y1 : wx.cell? ⟨KB, 1, none⟩ = some (.int .i64 o.at_) := (blk_cell HB 1).trans rfl
  have y2 : wx.cell? ⟨KB, 2, none⟩ = some (.slice bA o.b.length bc) := (blk_cell HB 2).trans rfl
  have hd := HL.d
  show Code.wp Try.prog (Code.block 2 _) Q ⟨A, []⟩ wx
  rw [HF.lit]
  have HL := Aside0.mk HL
  have HQ := Aside0.mk hQ
  have HW : ∃ wt, wt = wantF M o inn := ⟨_, rfl⟩
  obtain ⟨wt, hwt⟩ := HW
  rw [← hwt] at HQ
  unfold wantF at hwt
  rw [← hd] at hwt
  clear HF hQ hd
  have hc : (o.k = 0 ∧ (o.k == 0) = true ∧ (o.k == 1) = false ∧ decide (0 ≤ o.k) = true ∧ decide (o.k ≤ 2) = true) ∨ (o.k = 1 ∧ (o.k == 0) = false ∧ (o.k == 1) = true ∧ decide (0 ≤ o.k) = true ∧ decide (o.k ≤ 2) = true) ∨ (o.k = 2 ∧ (o.k == 0) = false ∧ (o.k == 1) = false ∧ decide (0 ≤ o.k) = true ∧ decide (o.k ≤ 2) = true) ∨ (¬ (0 ≤ o.k) ∧ (o.k == 0) = false ∧ (o.k == 1) = false ∧ decide (0 ≤ o.k) = false) ∨ (¬ (o.k ≤ 2) ∧ (o.k == 0) = false ∧ (o.k == 1) = false ∧ decide (0 ≤ o.k) = true ∧ decide (o.k ≤ 2) = false) := by
    have hb : ∀ m : Int, (o.k == m) = decide (o.k = m) := fun m => rfl
    rcases Int.lt_or_le o.k 0 with h | h
    · exact .inr (.inr (.inr (.inl ⟨by omega, beq_eq_false_iff_ne.2 (by omega), beq_eq_false_iff_ne.2 (by omega), decide_eq_false (by omega)⟩)))
    · rcases Int.lt_or_le 2 o.k with h2 | h2
      · exact .inr (.inr (.inr (.inr ⟨by omega, beq_eq_false_iff_ne.2 (by omega), beq_eq_false_iff_ne.2 (by omega), decide_eq_true h, decide_eq_false (by omega)⟩)))
      · by_cases h0 : o.k = 0
        · exact .inl ⟨h0, beq_iff_eq.2 h0, beq_eq_false_iff_ne.2 (by omega), decide_eq_true h, decide_eq_true h2⟩
        · by_cases h1 : o.k = 1
          · exact .inr (.inl ⟨h1, beq_eq_false_iff_ne.2 h0, beq_iff_eq.2 h1, decide_eq_true h, decide_eq_true h2⟩)
          · exact .inr (.inr (.inl ⟨by omega, beq_eq_false_iff_ne.2 h0, beq_eq_false_iff_ne.2 h1, decide_eq_true h, decide_eq_true h2⟩))
  have hlen : (512 < o.b.length ∧ decide (512 < o.b.length) = true ∧ decide ((512 : Int) < (o.b.length : Int)) = true) ∨ (¬ 512 < o.b.length ∧ decide (512 < o.b.length) = false ∧ decide ((512 : Int) < (o.b.length : Int)) = false) := by
    rcases Nat.lt_or_ge 512 o.b.length with h | h
    · exact .inl ⟨h, decide_eq_true h, decide_eq_true (by omega)⟩
    · exact .inr ⟨by omega, decide_eq_false (by omega), decide_eq_false (by omega)⟩
  rcases hc with ⟨h0, b0, b1, b2, b3⟩ | ⟨h0, b0, b1, b2, b3⟩ | ⟨h0, b0, b1, b2, b3⟩ | ⟨h0, b0, b1, b2⟩ | ⟨h0, b0, b1, b2, b3⟩
  · cases inn
    · have he : wt = 1 := by rw [hwt, if_pos (.inl ⟨h0, .inl rfl⟩)]
      subst he
      clear hwt h0 hin hlen
      go_wp2
      exact HQ.out _ ⟨rfl, rfl, rfl, rfl, rfl, rfl, rfl, rfl, rfl, rfl, rfl, rfl, rfl, rfl⟩
    · rcases hlen with ⟨h5, b5, b6⟩ | ⟨h5, b5, b6⟩
      · have he : wt = 1 := by rw [hwt, if_pos (.inl ⟨h0, .inr h5⟩)]
        subst he
        clear hwt h0 hin h5
        go_wp2
        exact HQ.out _ ⟨rfl, rfl, rfl, rfl, rfl, rfl, rfl, rfl, rfl, rfl, rfl, rfl, rfl, rfl⟩
      · have hno : ¬ ((o.k = 0 ∧ (true = false ∨ 512 < o.b.length)) ∨ (o.k = 1 ∧ true = false)) := by
          rintro (⟨_, h | h⟩ | ⟨h, _⟩)
          · cases h
          · exact h5 h
          · omega
        cases down
        · have he : wt = 0 := by rw [hwt, if_neg hno, if_neg (fun h => by cases h.2), if_neg (fun h => by have := h.1; omega)]
          subst he
          clear hwt h0 hin h5 hno
          go_wp2
          exact HQ.out _ ⟨rfl, rfl, rfl, rfl, rfl, rfl, rfl, rfl, rfl, rfl, rfl, rfl, rfl, rfl⟩
        · have he : wt = 8 := by rw [hwt, if_neg hno, if_pos ⟨by omega, rfl⟩]
          subst he
          clear hwt h0 hin h5 hno
          go_wp2
          exact HQ.out _ ⟨rfl, rfl, rfl, rfl, rfl, rfl, rfl, rfl, rfl, rfl, rfl, rfl, rfl, rfl⟩
  · cases inn
    · have he : wt = 1 := by rw [hwt, if_pos (.inr ⟨h0, rfl⟩)]
      subst he
      clear hwt h0 hin hlen
      go_wp2
      exact HQ.out _ ⟨rfl, rfl, rfl, rfl, rfl, rfl, rfl, rfl, rfl, rfl, rfl, rfl, rfl, rfl⟩
    · have hno : ¬ ((o.k = 0 ∧ (true = false ∨ 512 < o.b.length)) ∨ (o.k = 1 ∧ true = false)) := by
        rintro (⟨h, _⟩ | ⟨_, h⟩)
        · omega
        · cases h
      cases down
      · obtain ⟨a, ha⟩ : ∃ a : Nat, o.at_ = a := ⟨o.at_.toNat, by have := of_decide_eq_true hin.symm; omega⟩
        have han : a < n := by have := of_decide_eq_true hin.symm; omega
        rw [ha] at hwt y1
        have hl1 := HL.out.nlen
        have hlt : a < (NS M.now M.torn).length := by omega
        have hat : a < M.torn.length := by have := HL.out.t1; omega
        obtain ⟨g6, c6, hv6, _, hcell⟩ := HL.out.n.cell a hlt
        have z1 := hcell 1 (.bool M.torn[a]) (by rw [NS_get a hlt (by omega) hat]; rfl)
        have hrd : rdOf false M.torn (a : Int) = M.torn[a] := by
          unfold rdOf
          rw [Int.toNat_natCast, List.getD_eq_getElem?_getD, List.getElem?_eq_getElem hat]
          rfl
        rw [hrd] at hwt
        rw [hl1, hn] at hv6
        subst hv6
        generalize M.torn[a] = tt at hwt z1
        have han2 : (a : Int) < (n : Int) := by omega
        clear hlt hl1 hcell hrd
        cases tt
        · have he : wt = 0 := by rw [hwt, if_neg hno, if_neg (fun h => by cases h.2), if_neg (fun h => by cases h.2)]
          subst he
          clear hwt h0 hin hlen hno
          go_wp2
          exact HQ.out _ ⟨rfl, rfl, rfl, rfl, rfl, rfl, rfl, rfl, rfl, rfl, rfl, rfl, rfl, rfl⟩
        · have he : wt = 9 := by rw [hwt, if_neg hno, if_neg (fun h => by cases h.2), if_pos ⟨h0, rfl⟩]
          subst he
          clear hwt h0 hin hlen hno
          go_wp2
          exact HQ.out _ ⟨rfl, rfl, rfl, rfl, rfl, rfl, rfl, rfl, rfl, rfl, rfl, rfl, rfl, rfl⟩
      · have he : wt = 8 := by rw [hwt, if_neg hno, if_pos ⟨by omega, rfl⟩]
        subst he
        clear hwt h0 hin hlen hno
        go_wp2
        exact HQ.out _ ⟨rfl, rfl, rfl, rfl, rfl, rfl, rfl, rfl, rfl, rfl, rfl, rfl, rfl, rfl⟩
  all_goals
    have hno : ¬ ((o.k = 0 ∧ (inn = false ∨ 512 < o.b.length)) ∨ (o.k = 1 ∧ inn = false)) := by
      rintro (⟨h, _⟩ | ⟨h, _⟩) <;> omega
    rw [if_neg hno] at hwt
  · cases down
    · have he : wt = 0 := by rw [hwt, if_neg (fun h => by cases h.2), if_neg (fun h => by have := h.1; omega)]
      subst he
      clear hwt h0 hin hlen hno
      go_wp2
      exact HQ.out _ ⟨rfl, rfl, rfl, rfl, rfl, rfl, rfl, rfl, rfl, rfl, rfl, rfl, rfl, rfl⟩
    · have he : wt = 8 := by rw [hwt, if_pos ⟨by omega, rfl⟩]
      subst he
      clear hwt h0 hin hlen hno
      go_wp2
      exact HQ.out _ ⟨rfl, rfl, rfl, rfl, rfl, rfl, rfl, rfl, rfl, rfl, rfl, rfl, rfl, rfl⟩
  all_goals
    have he : wt = 0 := by rw [hwt, if_neg (fun h => by have := h.1; omega), if_neg (fun h => by have := h.1; omega)]
    subst he
    clear hwt h0 hin hlen hno
    go_wp2
    exact HQ.out _ ⟨rfl, rfl, rfl, rfl, rfl, rfl, rfl, rfl, rfl, rfl, rfl, rfl, rfl, rfl⟩
end
end DiskRuns
end Go.Proofs.Ytihmfccpgahmaaa.Dk
