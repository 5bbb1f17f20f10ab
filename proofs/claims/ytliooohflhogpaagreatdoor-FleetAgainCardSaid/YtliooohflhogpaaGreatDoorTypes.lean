/-
  Facts about the program's types. Made by wip/tools/Types.lean.
-/
import Derived.Test.YtliooohflhogpaaGreatDoorGg
namespace Go.Proofs.YtliooohflhogpaaGreatDoor
open Go Go.RowKit
-- U 0 
-- U 1 
-- U 2 
-- U 3 
theorem ts3 : sizeT Tryz.prog 3 = some 1 := by kernel_rfl
theorem ta3 : aggT Tryz.prog 3 = some false := by kernel_rfl
theorem ti3 : ∃ i, Tryz.prog.info? 3 = some i ∧ i.zero = some (.int .i64 0) ∧ i.size = 1 ∧ i.bytes = 8 := info_ex (by kernel_rfl)
noncomputable def tI3 : TypeInfo := Classical.choose ti3
theorem tj3 : Tryz.prog.info? 3 = some tI3 := (Classical.choose_spec ti3).1
theorem tz3 : tI3.zero = some (.int .i64 0) := (Classical.choose_spec ti3).2.1
theorem tn3 : tI3.size = 1 := (Classical.choose_spec ti3).2.2.1
theorem tb3 : tI3.bytes = 8 := (Classical.choose_spec ti3).2.2.2
-- U 4 
theorem ts4 : sizeT Tryz.prog 4 = some 1 := by kernel_rfl
theorem ta4 : aggT Tryz.prog 4 = some false := by kernel_rfl
theorem ti4 : ∃ i, Tryz.prog.info? 4 = some i ∧ i.zero = some (.bool false) ∧ i.size = 1 ∧ i.bytes = 1 := info_ex (by kernel_rfl)
noncomputable def tI4 : TypeInfo := Classical.choose ti4
theorem tj4 : Tryz.prog.info? 4 = some tI4 := (Classical.choose_spec ti4).1
theorem tz4 : tI4.zero = some (.bool false) := (Classical.choose_spec ti4).2.1
theorem tn4 : tI4.size = 1 := (Classical.choose_spec ti4).2.2.1
theorem tb4 : tI4.bytes = 1 := (Classical.choose_spec ti4).2.2.2
-- U 5 
theorem ts5 : sizeT Tryz.prog 5 = some 1 := by kernel_rfl
theorem ta5 : aggT Tryz.prog 5 = some false := by kernel_rfl
theorem ti5 : ∃ i, Tryz.prog.info? 5 = some i ∧ i.zero = some (.int .u8 0) ∧ i.size = 1 ∧ i.bytes = 1 := info_ex (by kernel_rfl)
noncomputable def tI5 : TypeInfo := Classical.choose ti5
theorem tj5 : Tryz.prog.info? 5 = some tI5 := (Classical.choose_spec ti5).1
theorem tz5 : tI5.zero = some (.int .u8 0) := (Classical.choose_spec ti5).2.1
theorem tn5 : tI5.size = 1 := (Classical.choose_spec ti5).2.2.1
theorem tb5 : tI5.bytes = 1 := (Classical.choose_spec ti5).2.2.2
-- U 6 
-- U 7 2 3 4 6
-- U 8 2 3 4 6
-- U 9 
-- U 10 
-- U 11 
-- U 12 
-- U 13 9 12
-- U 14 9 12
-- U 15 477
-- U 16 480
-- U 17 487
-- U 18 17
-- U 19 17
-- U 20 
-- U 21 
-- U 22 3
theorem ts22 : sizeT Tryz.prog 22 = some 1 := by kernel_rfl
theorem ta22 : aggT Tryz.prog 22 = some false := by kernel_rfl
theorem ti22 : ∃ i, Tryz.prog.info? 22 = some i ∧ i.zero = some (.slice none 0 0) ∧ i.size = 1 ∧ i.bytes = 24 := info_ex (by kernel_rfl)
noncomputable def tI22 : TypeInfo := Classical.choose ti22
theorem tj22 : Tryz.prog.info? 22 = some tI22 := (Classical.choose_spec ti22).1
theorem tz22 : tI22.zero = some (.slice none 0 0) := (Classical.choose_spec ti22).2.1
theorem tn22 : tI22.size = 1 := (Classical.choose_spec ti22).2.2.1
theorem tb22 : tI22.bytes = 24 := (Classical.choose_spec ti22).2.2.2
-- U 23 53
theorem ts23 : sizeT Tryz.prog 23 = some 1 := by kernel_rfl
theorem ta23 : aggT Tryz.prog 23 = some false := by kernel_rfl
theorem ti23 : ∃ i, Tryz.prog.info? 23 = some i ∧ i.zero = some (.slice none 0 0) ∧ i.size = 1 ∧ i.bytes = 24 := info_ex (by kernel_rfl)
noncomputable def tI23 : TypeInfo := Classical.choose ti23
theorem tj23 : Tryz.prog.info? 23 = some tI23 := (Classical.choose_spec ti23).1
theorem tz23 : tI23.zero = some (.slice none 0 0) := (Classical.choose_spec ti23).2.1
theorem tn23 : tI23.size = 1 := (Classical.choose_spec ti23).2.2.1
theorem tb23 : tI23.bytes = 24 := (Classical.choose_spec ti23).2.2.2
-- U 24 22 22 22 23
-- U 25 22 22 22 23
theorem ts25 : sizeT Tryz.prog 25 = some 4 := by kernel_rfl
theorem ta25 : aggT Tryz.prog 25 = some true := by kernel_rfl
theorem ti25 : ∃ i, Tryz.prog.info? 25 = some i ∧ i.zero = some (.agg #[.slice none 0 0, .slice none 0 0, .slice none 0 0, .slice none 0 0]) ∧ i.size = 4 ∧ i.bytes = 96 := info_ex (by kernel_rfl)
noncomputable def tI25 : TypeInfo := Classical.choose ti25
theorem tj25 : Tryz.prog.info? 25 = some tI25 := (Classical.choose_spec ti25).1
theorem tz25 : tI25.zero = some (.agg #[.slice none 0 0, .slice none 0 0, .slice none 0 0, .slice none 0 0]) := (Classical.choose_spec ti25).2.1
theorem tn25 : tI25.size = 4 := (Classical.choose_spec ti25).2.2.1
theorem tb25 : tI25.bytes = 96 := (Classical.choose_spec ti25).2.2.2
-- U 26 
-- U 27 
-- U 28 
theorem ts28 : sizeT Tryz.prog 28 = some 1 := by kernel_rfl
theorem ta28 : aggT Tryz.prog 28 = some false := by kernel_rfl
theorem ti28 : ∃ i, Tryz.prog.info? 28 = some i ∧ i.zero = some (.int .i64 0) ∧ i.size = 1 ∧ i.bytes = 8 := info_ex (by kernel_rfl)
noncomputable def tI28 : TypeInfo := Classical.choose ti28
theorem tj28 : Tryz.prog.info? 28 = some tI28 := (Classical.choose_spec ti28).1
theorem tz28 : tI28.zero = some (.int .i64 0) := (Classical.choose_spec ti28).2.1
theorem tn28 : tI28.size = 1 := (Classical.choose_spec ti28).2.2.1
theorem tb28 : tI28.bytes = 8 := (Classical.choose_spec ti28).2.2.2
-- U 29 
-- U 30 
-- U 31 
-- U 32 
-- U 33 
-- U 34 
-- U 35 
-- U 36 
-- U 37 5
theorem ts37 : sizeT Tryz.prog 37 = some 1 := by kernel_rfl
theorem ta37 : aggT Tryz.prog 37 = some false := by kernel_rfl
theorem ti37 : ∃ i, Tryz.prog.info? 37 = some i ∧ i.zero = some (.slice none 0 0) ∧ i.size = 1 ∧ i.bytes = 24 := info_ex (by kernel_rfl)
noncomputable def tI37 : TypeInfo := Classical.choose ti37
theorem tj37 : Tryz.prog.info? 37 = some tI37 := (Classical.choose_spec ti37).1
theorem tz37 : tI37.zero = some (.slice none 0 0) := (Classical.choose_spec ti37).2.1
theorem tn37 : tI37.size = 1 := (Classical.choose_spec ti37).2.2.1
theorem tb37 : tI37.bytes = 24 := (Classical.choose_spec ti37).2.2.2
-- U 38 70
theorem ts38 : sizeT Tryz.prog 38 = some 1 := by kernel_rfl
theorem ta38 : aggT Tryz.prog 38 = some false := by kernel_rfl
theorem ti38 : ∃ i, Tryz.prog.info? 38 = some i ∧ i.zero = some (.slice none 0 0) ∧ i.size = 1 ∧ i.bytes = 24 := info_ex (by kernel_rfl)
noncomputable def tI38 : TypeInfo := Classical.choose ti38
theorem tj38 : Tryz.prog.info? 38 = some tI38 := (Classical.choose_spec ti38).1
theorem tz38 : tI38.zero = some (.slice none 0 0) := (Classical.choose_spec ti38).2.1
theorem tn38 : tI38.size = 1 := (Classical.choose_spec ti38).2.2.1
theorem tb38 : tI38.bytes = 24 := (Classical.choose_spec ti38).2.2.2
-- U 39 37 37 37 38
-- U 40 37 37 37 38
theorem ts40 : sizeT Tryz.prog 40 = some 4 := by kernel_rfl
theorem ta40 : aggT Tryz.prog 40 = some true := by kernel_rfl
theorem ti40 : ∃ i, Tryz.prog.info? 40 = some i ∧ i.zero = some (.agg #[.slice none 0 0, .slice none 0 0, .slice none 0 0, .slice none 0 0]) ∧ i.size = 4 ∧ i.bytes = 96 := info_ex (by kernel_rfl)
noncomputable def tI40 : TypeInfo := Classical.choose ti40
theorem tj40 : Tryz.prog.info? 40 = some tI40 := (Classical.choose_spec ti40).1
theorem tz40 : tI40.zero = some (.agg #[.slice none 0 0, .slice none 0 0, .slice none 0 0, .slice none 0 0]) := (Classical.choose_spec ti40).2.1
theorem tn40 : tI40.size = 4 := (Classical.choose_spec ti40).2.2.1
theorem tb40 : tI40.bytes = 96 := (Classical.choose_spec ti40).2.2.2
-- U 41 
-- U 42 
-- U 43 
-- U 44 
-- U 45 75
-- U 46 77
-- U 47 45 46
-- U 48 45 46
-- U 49 
-- U 50 4
theorem ts50 : sizeT Tryz.prog 50 = some 1 := by kernel_rfl
theorem ta50 : aggT Tryz.prog 50 = some false := by kernel_rfl
theorem ti50 : ∃ i, Tryz.prog.info? 50 = some i ∧ i.zero = some (.slice none 0 0) ∧ i.size = 1 ∧ i.bytes = 24 := info_ex (by kernel_rfl)
noncomputable def tI50 : TypeInfo := Classical.choose ti50
theorem tj50 : Tryz.prog.info? 50 = some tI50 := (Classical.choose_spec ti50).1
theorem tz50 : tI50.zero = some (.slice none 0 0) := (Classical.choose_spec ti50).2.1
theorem tn50 : tI50.size = 1 := (Classical.choose_spec ti50).2.2.1
theorem tb50 : tI50.bytes = 24 := (Classical.choose_spec ti50).2.2.2
-- U 51 50
theorem ts51 : sizeT Tryz.prog 51 = some 1 := by kernel_rfl
theorem ta51 : aggT Tryz.prog 51 = some false := by kernel_rfl
theorem ti51 : ∃ i, Tryz.prog.info? 51 = some i ∧ i.zero = some (.slice none 0 0) ∧ i.size = 1 ∧ i.bytes = 24 := info_ex (by kernel_rfl)
noncomputable def tI51 : TypeInfo := Classical.choose ti51
theorem tj51 : Tryz.prog.info? 51 = some tI51 := (Classical.choose_spec ti51).1
theorem tz51 : tI51.zero = some (.slice none 0 0) := (Classical.choose_spec ti51).2.1
theorem tn51 : tI51.size = 1 := (Classical.choose_spec ti51).2.2.1
theorem tb51 : tI51.bytes = 24 := (Classical.choose_spec ti51).2.2.2
-- U 52 3 3 3 4 51 51
-- U 53 3 3 3 4 51 51
theorem ts53 : sizeT Tryz.prog 53 = some 6 := by kernel_rfl
theorem ta53 : aggT Tryz.prog 53 = some true := by kernel_rfl
theorem ti53 : ∃ i, Tryz.prog.info? 53 = some i ∧ i.zero = some (.agg #[.int .i64 0, .int .i64 0, .int .i64 0, .bool false, .slice none 0 0, .slice none 0 0]) ∧ i.size = 6 ∧ i.bytes = 80 := info_ex (by kernel_rfl)
noncomputable def tI53 : TypeInfo := Classical.choose ti53
theorem tj53 : Tryz.prog.info? 53 = some tI53 := (Classical.choose_spec ti53).1
theorem tz53 : tI53.zero = some (.agg #[.int .i64 0, .int .i64 0, .int .i64 0, .bool false, .slice none 0 0, .slice none 0 0]) := (Classical.choose_spec ti53).2.1
theorem tn53 : tI53.size = 6 := (Classical.choose_spec ti53).2.2.1
theorem tb53 : tI53.bytes = 80 := (Classical.choose_spec ti53).2.2.2
-- U 54 
-- U 55 
-- U 56 
-- U 57 
-- U 58 
theorem ts58 : sizeT Tryz.prog 58 = some 1 := by kernel_rfl
theorem ta58 : aggT Tryz.prog 58 = some false := by kernel_rfl
theorem ti58 : ∃ i, Tryz.prog.info? 58 = some i ∧ i.zero = some .nilFunc ∧ i.size = 1 ∧ i.bytes = 8 := info_ex (by kernel_rfl)
noncomputable def tI58 : TypeInfo := Classical.choose ti58
theorem tj58 : Tryz.prog.info? 58 = some tI58 := (Classical.choose_spec ti58).1
theorem tz58 : tI58.zero = some .nilFunc := (Classical.choose_spec ti58).2.1
theorem tn58 : tI58.size = 1 := (Classical.choose_spec ti58).2.2.1
theorem tb58 : tI58.bytes = 8 := (Classical.choose_spec ti58).2.2.2
-- U 59 
-- U 60 
-- U 61 
-- U 62 
-- U 63 
-- U 64 
-- U 65 
-- U 66 
-- U 67 
-- U 68 
theorem ts68 : sizeT Tryz.prog 68 = some 1 := by kernel_rfl
theorem ta68 : aggT Tryz.prog 68 = some false := by kernel_rfl
theorem ti68 : ∃ i, Tryz.prog.info? 68 = some i ∧ i.zero = some (.int .u16 0) ∧ i.size = 1 ∧ i.bytes = 2 := info_ex (by kernel_rfl)
noncomputable def tI68 : TypeInfo := Classical.choose ti68
theorem tj68 : Tryz.prog.info? 68 = some tI68 := (Classical.choose_spec ti68).1
theorem tz68 : tI68.zero = some (.int .u16 0) := (Classical.choose_spec ti68).2.1
theorem tn68 : tI68.size = 1 := (Classical.choose_spec ti68).2.2.1
theorem tb68 : tI68.bytes = 2 := (Classical.choose_spec ti68).2.2.2
-- U 69 5 5 5 4 68 68
-- U 70 5 5 5 4 68 68
theorem ts70 : sizeT Tryz.prog 70 = some 6 := by kernel_rfl
theorem ta70 : aggT Tryz.prog 70 = some true := by kernel_rfl
theorem ti70 : ∃ i, Tryz.prog.info? 70 = some i ∧ i.zero = some (.agg #[.int .u8 0, .int .u8 0, .int .u8 0, .bool false, .int .u16 0, .int .u16 0]) ∧ i.size = 6 ∧ i.bytes = 8 := info_ex (by kernel_rfl)
noncomputable def tI70 : TypeInfo := Classical.choose ti70
theorem tj70 : Tryz.prog.info? 70 = some tI70 := (Classical.choose_spec ti70).1
theorem tz70 : tI70.zero = some (.agg #[.int .u8 0, .int .u8 0, .int .u8 0, .bool false, .int .u16 0, .int .u16 0]) := (Classical.choose_spec ti70).2.1
theorem tn70 : tI70.size = 6 := (Classical.choose_spec ti70).2.2.1
theorem tb70 : tI70.bytes = 8 := (Classical.choose_spec ti70).2.2.2
-- U 71 
-- U 72 
-- U 73 87
-- U 74 9 73 3 3
-- U 75 9 73 3 3
-- U 76 3 9 3 3 4 3
-- U 77 3 9 3 3 4 3
-- U 78 
-- U 79 
-- U 80 94
-- U 81 80
-- U 82 80
-- U 83 138
-- U 84 145
-- U 85 96
-- U 86 9 82 83 84 85
-- U 87 9 82 83 84 85
-- U 88 
-- U 89 
-- U 90 2
-- U 91 296
-- U 92 293
-- U 93 3 9 2 2 3 91 92 3 3 4
-- U 94 3 9 2 2 3 91 92 3 3 4
-- U 95 9 3
-- U 96 9 3
-- U 97 
-- U 98 
-- U 99 
-- U 100 
-- U 101 
-- U 102 
-- U 103 
-- U 104 
-- U 105 
-- U 106 
-- U 107 169
-- U 108 3 3 9 107
-- U 109 3 3 9 107
-- U 110 
-- U 111 
-- U 112 
-- U 113 
-- U 114 
-- U 115 82 3
-- U 116 82 3
-- U 117 
-- U 118 
-- U 119 
-- U 120 
-- U 121 
-- U 122 
-- U 123 
-- U 124 
-- U 125 
-- U 126 
-- U 127 
-- U 128 180
-- U 129 
-- U 130 
-- U 131 
-- U 132 
-- U 133 
-- U 134 9
-- U 135 134
-- U 136 134
-- U 137 9 3 3
-- U 138 9 3 3
-- U 139 
-- U 140 216
-- U 141 246
-- U 142 3 3 141
-- U 143 3 3 141
-- U 144 9 140 143
-- U 145 9 140 143
-- U 146 
-- U 147 
-- U 148 
-- U 149 
-- U 150 
-- U 151 
-- U 152 
-- U 153 
-- U 154 
-- U 155 
-- U 156 
-- U 157 
-- U 158 87
-- U 159 145
-- U 160 143 143 3
-- U 161 143 143 3
-- U 162 158 159 161
-- U 163 158 159 161
-- U 164 
-- U 165 
-- U 166 
-- U 167 
-- U 168 3 4 3
-- U 169 3 4 3
-- U 170 
-- U 171 
-- U 172 
-- U 173 3 3 22 22
-- U 174 3 3 22 22
-- U 175 
-- U 176 
-- U 177 
-- U 178 
-- U 179 
-- U 180 3
-- U 181 
-- U 182 
-- U 183 
-- U 184 
-- U 185 136
-- U 186 
-- U 187 
-- U 188 
-- U 189 
-- U 190 193
-- U 191 366
-- U 192 3 4 2 9 3 190 190 191
-- U 193 3 4 2 9 3 190 190 191
-- U 194 
-- U 195 
-- U 196 
-- U 197 174
-- U 198 
-- U 199 
-- U 200 
-- U 201 174 107
-- U 202 174 107
-- U 203 202
-- U 204 
-- U 205 
-- U 206 
-- U 207 
-- U 208 
-- U 209 
-- U 210 
-- U 211 
-- U 212 
-- U 213 
-- U 214 
-- U 215 3 9 3
-- U 216 3 9 3
-- U 217 
-- U 218 
-- U 219 
-- U 220 
-- U 221 
-- U 222 
-- U 223 231
-- U 224 
-- U 225 
-- U 226 
-- U 227 
-- U 228 107
-- U 229 22
-- U 230 161 197 228 229 22 107
-- U 231 161 197 228 229 22 107
-- U 232 
-- U 233 
-- U 234 
-- U 235 
-- U 236 
-- U 237 
-- U 238 
-- U 239 
-- U 240 
-- U 241 
-- U 242 
-- U 243 
-- U 244 
-- U 245 3 4 3 3
-- U 246 3 4 3 3
-- U 247 4 4 9 193
-- U 248 4 4 9 193
-- U 249 
-- U 250 
-- U 251 
-- U 252 
-- U 253 
-- U 254 
-- U 255 
-- U 256 
-- U 257 
-- U 258 
-- U 259 
-- U 260 
-- U 261 
-- U 262 
-- U 263 
-- U 264 
-- U 265 
-- U 266 
-- U 267 
-- U 268 
-- U 269 
-- U 270 
-- U 271 
-- U 272 
-- U 273 
-- U 274 4 4 9 193
-- U 275 4 4 9 193
-- U 276 275
-- U 277 
-- U 278 
-- U 279 
-- U 280 282
-- U 281 82 3
-- U 282 82 3
-- U 283 
-- U 284 
-- U 285 
-- U 286 
-- U 287 
-- U 288 
-- U 289 
-- U 290 
-- U 291 
-- U 292 3 9 3 4 4 193
-- U 293 3 9 3 4 4 193
-- U 294 
-- U 295 3 9
-- U 296 3 9
-- U 297 
-- U 298 
-- U 299 
-- U 300 
-- U 301 
-- U 302 
-- U 303 
-- U 304 
-- U 305 
-- U 306 
-- U 307 
-- U 308 
-- U 309 248
-- U 310 309
-- U 311 82 82 309 310
-- U 312 82 82 309 310
-- U 313 312
-- U 314 
-- U 315 317
-- U 316 315 37
-- U 317 315 37
-- U 318 
-- U 319 
-- U 320 
-- U 321 
-- U 322 
-- U 323 
-- U 324 143 3 22 22 3
-- U 325 143 3 22 22 3
-- U 326 
-- U 327 
-- U 328 
-- U 329 
-- U 330 
-- U 331 
-- U 332 
-- U 333 
-- U 334 
-- U 335 
-- U 336 
-- U 337 
-- U 338 3
-- U 339 
-- U 340 
-- U 341 
-- U 342 
-- U 343 
-- U 344 
-- U 345 
-- U 346 
-- U 347 
-- U 348 
-- U 349 
-- U 350 
-- U 351 
-- U 352 
-- U 353 
-- U 354 
-- U 355 
-- U 356 
-- U 357 
-- U 358 
-- U 359 361
-- U 360 82 82 22 22
-- U 361 82 82 22 22
-- U 362 
-- U 363 
-- U 364 
-- U 365 3 9
-- U 366 3 9
-- U 367 
-- U 368 
-- U 369 
-- U 370 
-- U 371 
-- U 372 
-- U 373 
-- U 374 
-- U 375 
-- U 376 
-- U 377 
-- U 378 5
-- U 379 
-- U 380 334
-- U 381 
-- U 382 
-- U 383 
-- U 384 
-- U 385 
-- U 386 5
-- U 387 391
-- U 388 
-- U 389 
-- U 390 3 9
-- U 391 3 9
-- U 392 
-- U 393 
-- U 394 
-- U 395 
-- U 396 
-- U 397 
-- U 398 
-- U 399 
-- U 400 
-- U 401 
-- U 402 
-- U 403 
-- U 404 
-- U 405 
-- U 406 
-- U 407 
-- U 408 
-- U 409 
-- U 410 
-- U 411 
-- U 412 
-- U 413 
-- U 414 
-- U 415 
-- U 416 
-- U 417 
-- U 418 
-- U 419 
-- U 420 
-- U 421 
-- U 422 
-- U 423 
-- U 424 
-- U 425 
-- U 426 
-- U 427 5
-- U 428 
-- U 429 
-- U 430 
-- U 431 
-- U 432 
-- U 433 
-- U 434 
-- U 435 
-- U 436 
-- U 437 
-- U 438 
-- U 439 
-- U 440 5
-- U 441 
-- U 442 
-- U 443 
-- U 444 
-- U 445 
-- U 446 
-- U 447 
-- U 448 
-- U 449 
-- U 450 
-- U 451 
-- U 452 
-- U 453 
-- U 454 
-- U 455 
-- U 456 
-- U 457 
-- U 458 
-- U 459 
-- U 460 
-- U 461 
-- U 462 
-- U 463 
-- U 464 
-- U 465 271
-- U 466 5
-- U 467 
-- U 468 
-- U 469 
-- U 470 
-- U 471 
-- U 472 
-- U 473 
-- U 474 5
-- U 475 5
-- U 476 17 17 17 9
-- U 477 17 17 17 9
-- U 478 16
-- U 479 478
-- U 480 478
-- U 481 
-- U 482 
-- U 483 
-- U 484 
-- U 485 
-- U 486 12 12 269 481 5 5 482 483 378 484 485
-- U 487 12 12 269 481 5 5 482 483 378 484 485
-- U 488 
theorem bd3 : bodied Tryz.prog 3 = true := by kernel_rfl
theorem bd4 : bodied Tryz.prog 4 = true := by kernel_rfl
theorem bd5 : bodied Tryz.prog 5 = true := by kernel_rfl
theorem bd6 : bodied Tryz.prog 6 = true := by kernel_rfl
theorem bd7 : bodied Tryz.prog 7 = true := by kernel_rfl
theorem bd8 : bodied Tryz.prog 8 = true := by kernel_rfl
theorem bd9 : bodied Tryz.prog 9 = true := by kernel_rfl
theorem bd10 : bodied Tryz.prog 10 = true := by kernel_rfl
theorem bd11 : bodied Tryz.prog 11 = true := by kernel_rfl
theorem bd12 : bodied Tryz.prog 12 = true := by kernel_rfl
theorem bd13 : bodied Tryz.prog 13 = true := by kernel_rfl
theorem bd14 : bodied Tryz.prog 14 = true := by kernel_rfl
theorem bd15 : bodied Tryz.prog 15 = true := by kernel_rfl
theorem bd16 : bodied Tryz.prog 16 = true := by kernel_rfl
theorem bd17 : bodied Tryz.prog 17 = true := by kernel_rfl
theorem bd18 : bodied Tryz.prog 18 = true := by kernel_rfl
theorem bd19 : bodied Tryz.prog 19 = true := by kernel_rfl
theorem bd20 : bodied Tryz.prog 20 = true := by kernel_rfl
theorem bd21 : bodied Tryz.prog 21 = true := by kernel_rfl
theorem bd22 : bodied Tryz.prog 22 = true := by kernel_rfl
theorem bd23 : bodied Tryz.prog 23 = true := by kernel_rfl
theorem bd24 : bodied Tryz.prog 24 = true := by kernel_rfl
theorem bd25 : bodied Tryz.prog 25 = true := by kernel_rfl
theorem bd26 : bodied Tryz.prog 26 = true := by kernel_rfl
theorem bd27 : bodied Tryz.prog 27 = true := by kernel_rfl
theorem bd28 : bodied Tryz.prog 28 = true := by kernel_rfl
theorem bd29 : bodied Tryz.prog 29 = true := by kernel_rfl
theorem bd30 : bodied Tryz.prog 30 = true := by kernel_rfl
theorem bd31 : bodied Tryz.prog 31 = true := by kernel_rfl
theorem bd32 : bodied Tryz.prog 32 = true := by kernel_rfl
theorem bd33 : bodied Tryz.prog 33 = true := by kernel_rfl
theorem bd34 : bodied Tryz.prog 34 = true := by kernel_rfl
theorem bd35 : bodied Tryz.prog 35 = true := by kernel_rfl
theorem bd36 : bodied Tryz.prog 36 = true := by kernel_rfl
theorem bd37 : bodied Tryz.prog 37 = true := by kernel_rfl
theorem bd38 : bodied Tryz.prog 38 = true := by kernel_rfl
theorem bd39 : bodied Tryz.prog 39 = true := by kernel_rfl
theorem bd40 : bodied Tryz.prog 40 = true := by kernel_rfl
theorem bd41 : bodied Tryz.prog 41 = true := by kernel_rfl
theorem bd49 : bodied Tryz.prog 49 = true := by kernel_rfl
theorem bd50 : bodied Tryz.prog 50 = true := by kernel_rfl
theorem bd51 : bodied Tryz.prog 51 = true := by kernel_rfl
theorem bd52 : bodied Tryz.prog 52 = true := by kernel_rfl
theorem bd53 : bodied Tryz.prog 53 = true := by kernel_rfl
theorem bd54 : bodied Tryz.prog 54 = true := by kernel_rfl
theorem bd63 : bodied Tryz.prog 63 = true := by kernel_rfl
theorem tys : (sizeT Tryz.prog 3 = some 1) ∧ (aggT Tryz.prog 3 = some false) ∧ (Tryz.prog.info? 3 = some tI3) ∧ (tI3.zero = some (.int .i64 0)) ∧ (tI3.size = 1) ∧ (tI3.bytes = 8) ∧ (sizeT Tryz.prog 4 = some 1) ∧ (aggT Tryz.prog 4 = some false) ∧ (Tryz.prog.info? 4 = some tI4) ∧ (tI4.zero = some (.bool false)) ∧ (tI4.size = 1) ∧ (tI4.bytes = 1) ∧ (sizeT Tryz.prog 5 = some 1) ∧ (aggT Tryz.prog 5 = some false) ∧ (Tryz.prog.info? 5 = some tI5) ∧ (tI5.zero = some (.int .u8 0)) ∧ (tI5.size = 1) ∧ (tI5.bytes = 1) ∧ (sizeT Tryz.prog 22 = some 1) ∧ (aggT Tryz.prog 22 = some false) ∧ (Tryz.prog.info? 22 = some tI22) ∧ (tI22.zero = some (.slice none 0 0)) ∧ (tI22.size = 1) ∧ (tI22.bytes = 24) ∧ (sizeT Tryz.prog 23 = some 1) ∧ (aggT Tryz.prog 23 = some false) ∧ (Tryz.prog.info? 23 = some tI23) ∧ (tI23.zero = some (.slice none 0 0)) ∧ (tI23.size = 1) ∧ (tI23.bytes = 24) ∧ (sizeT Tryz.prog 25 = some 4) ∧ (aggT Tryz.prog 25 = some true) ∧ (Tryz.prog.info? 25 = some tI25) ∧ (tI25.zero = some (.agg #[.slice none 0 0, .slice none 0 0, .slice none 0 0, .slice none 0 0])) ∧ (tI25.size = 4) ∧ (tI25.bytes = 96) ∧ (sizeT Tryz.prog 28 = some 1) ∧ (aggT Tryz.prog 28 = some false) ∧ (Tryz.prog.info? 28 = some tI28) ∧ (tI28.zero = some (.int .i64 0)) ∧ (tI28.size = 1) ∧ (tI28.bytes = 8) ∧ (sizeT Tryz.prog 37 = some 1) ∧ (aggT Tryz.prog 37 = some false) ∧ (Tryz.prog.info? 37 = some tI37) ∧ (tI37.zero = some (.slice none 0 0)) ∧ (tI37.size = 1) ∧ (tI37.bytes = 24) ∧ (sizeT Tryz.prog 38 = some 1) ∧ (aggT Tryz.prog 38 = some false) ∧ (Tryz.prog.info? 38 = some tI38) ∧ (tI38.zero = some (.slice none 0 0)) ∧ (tI38.size = 1) ∧ (tI38.bytes = 24) ∧ (sizeT Tryz.prog 40 = some 4) ∧ (aggT Tryz.prog 40 = some true) ∧ (Tryz.prog.info? 40 = some tI40) ∧ (tI40.zero = some (.agg #[.slice none 0 0, .slice none 0 0, .slice none 0 0, .slice none 0 0])) ∧ (tI40.size = 4) ∧ (tI40.bytes = 96) ∧ (sizeT Tryz.prog 50 = some 1) ∧ (aggT Tryz.prog 50 = some false) ∧ (Tryz.prog.info? 50 = some tI50) ∧ (tI50.zero = some (.slice none 0 0)) ∧ (tI50.size = 1) ∧ (tI50.bytes = 24) ∧ (sizeT Tryz.prog 51 = some 1) ∧ (aggT Tryz.prog 51 = some false) ∧ (Tryz.prog.info? 51 = some tI51) ∧ (tI51.zero = some (.slice none 0 0)) ∧ (tI51.size = 1) ∧ (tI51.bytes = 24) ∧ (sizeT Tryz.prog 53 = some 6) ∧ (aggT Tryz.prog 53 = some true) ∧ (Tryz.prog.info? 53 = some tI53) ∧ (tI53.zero = some (.agg #[.int .i64 0, .int .i64 0, .int .i64 0, .bool false, .slice none 0 0, .slice none 0 0])) ∧ (tI53.size = 6) ∧ (tI53.bytes = 80) ∧ (sizeT Tryz.prog 58 = some 1) ∧ (aggT Tryz.prog 58 = some false) ∧ (Tryz.prog.info? 58 = some tI58) ∧ (tI58.zero = some .nilFunc) ∧ (tI58.size = 1) ∧ (tI58.bytes = 8) ∧ (sizeT Tryz.prog 68 = some 1) ∧ (aggT Tryz.prog 68 = some false) ∧ (Tryz.prog.info? 68 = some tI68) ∧ (tI68.zero = some (.int .u16 0)) ∧ (tI68.size = 1) ∧ (tI68.bytes = 2) ∧ (sizeT Tryz.prog 70 = some 6) ∧ (aggT Tryz.prog 70 = some true) ∧ (Tryz.prog.info? 70 = some tI70) ∧ (tI70.zero = some (.agg #[.int .u8 0, .int .u8 0, .int .u8 0, .bool false, .int .u16 0, .int .u16 0])) ∧ (tI70.size = 6) ∧ (tI70.bytes = 8) := ⟨ts3, ta3, tj3, tz3, tn3, tb3, ts4, ta4, tj4, tz4, tn4, tb4, ts5, ta5, tj5, tz5, tn5, tb5, ts22, ta22, tj22, tz22, tn22, tb22, ts23, ta23, tj23, tz23, tn23, tb23, ts25, ta25, tj25, tz25, tn25, tb25, ts28, ta28, tj28, tz28, tn28, tb28, ts37, ta37, tj37, tz37, tn37, tb37, ts38, ta38, tj38, tz38, tn38, tb38, ts40, ta40, tj40, tz40, tn40, tb40, ts50, ta50, tj50, tz50, tn50, tb50, ts51, ta51, tj51, tz51, tn51, tb51, ts53, ta53, tj53, tz53, tn53, tb53, ts58, ta58, tj58, tz58, tn58, tb58, ts68, ta68, tj68, tz68, tn68, tb68, ts70, ta70, tj70, tz70, tn70, tb70⟩
theorem bds : (bodied Tryz.prog 3 = true) ∧ (bodied Tryz.prog 4 = true) ∧ (bodied Tryz.prog 5 = true) ∧ (bodied Tryz.prog 6 = true) ∧ (bodied Tryz.prog 7 = true) ∧ (bodied Tryz.prog 8 = true) ∧ (bodied Tryz.prog 9 = true) ∧ (bodied Tryz.prog 10 = true) ∧ (bodied Tryz.prog 11 = true) ∧ (bodied Tryz.prog 12 = true) ∧ (bodied Tryz.prog 13 = true) ∧ (bodied Tryz.prog 14 = true) ∧ (bodied Tryz.prog 15 = true) ∧ (bodied Tryz.prog 16 = true) ∧ (bodied Tryz.prog 17 = true) ∧ (bodied Tryz.prog 18 = true) ∧ (bodied Tryz.prog 19 = true) ∧ (bodied Tryz.prog 20 = true) ∧ (bodied Tryz.prog 21 = true) ∧ (bodied Tryz.prog 22 = true) ∧ (bodied Tryz.prog 23 = true) ∧ (bodied Tryz.prog 24 = true) ∧ (bodied Tryz.prog 25 = true) ∧ (bodied Tryz.prog 26 = true) ∧ (bodied Tryz.prog 27 = true) ∧ (bodied Tryz.prog 28 = true) ∧ (bodied Tryz.prog 29 = true) ∧ (bodied Tryz.prog 30 = true) ∧ (bodied Tryz.prog 31 = true) ∧ (bodied Tryz.prog 32 = true) ∧ (bodied Tryz.prog 33 = true) ∧ (bodied Tryz.prog 34 = true) ∧ (bodied Tryz.prog 35 = true) ∧ (bodied Tryz.prog 36 = true) ∧ (bodied Tryz.prog 37 = true) ∧ (bodied Tryz.prog 38 = true) ∧ (bodied Tryz.prog 39 = true) ∧ (bodied Tryz.prog 40 = true) ∧ (bodied Tryz.prog 41 = true) ∧ (bodied Tryz.prog 49 = true) ∧ (bodied Tryz.prog 50 = true) ∧ (bodied Tryz.prog 51 = true) ∧ (bodied Tryz.prog 52 = true) ∧ (bodied Tryz.prog 53 = true) ∧ (bodied Tryz.prog 54 = true) ∧ (bodied Tryz.prog 63 = true) := ⟨bd3, bd4, bd5, bd6, bd7, bd8, bd9, bd10, bd11, bd12, bd13, bd14, bd15, bd16, bd17, bd18, bd19, bd20, bd21, bd22, bd23, bd24, bd25, bd26, bd27, bd28, bd29, bd30, bd31, bd32, bd33, bd34, bd35, bd36, bd37, bd38, bd39, bd40, bd41, bd49, bd50, bd51, bd52, bd53, bd54, bd63⟩
end Go.Proofs.YtliooohflhogpaaGreatDoor
